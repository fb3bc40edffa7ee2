/- Own texts, pruned and joined by a program (prune.py). -/
import Derived.Test.YtgjcibhhffkemaaGreatDoorVt1
import Derived.WalkKit
import Derived.Laws.MakeOwn
set_option linter.unusedVariables false
set_option linter.unusedSimpArgs false
namespace Go.Proofs.YtgjcibhhffkemaaGreatDoor
open Go.RowKit Bt
theorem Only.tr {S : Nat → Prop} {w w1 w2 : World} (h : Only S w w1) (h' : Only S w1 w2) : Only S w w2 := h.trans h' (fun k hk => .inl hk)
theorem Only.tb {S : Nat → Prop} {w w1 w2 : World} (h : Only S w w1) (h' : Below w1.heap.size w1 w2) : Only S w w2 := h.trans (Only.of_below (S := S) h') (fun k hk => .inl hk)
theorem Only.al {S : Nat → Prop} {w w1 : World} (h : Only S w w1) (o : Obj) : Only S w (w1.alloc o) := h.tb ((Below.refl _ _).alloc (Nat.le_refl _) o)
theorem Only.st {S : Nat → Prop} {w w1 : World} (h : Only S w w1) (g i : Nat) (v : Value) (hg : S g ∨ w.heap.size ≤ g) : Only S w (w1.setCell ⟨g,i,none⟩ v) :=
 h.trans (Only.set (S := fun k => k = g) w1 g i v rfl) (fun k hk => by subst hk;exact hg)
theorem Only.pS {S : Nat → Prop} {w w1 : World} (h : Only S w w1) (g : Nat) (f : Nat → Bool) (hg : S g ∨ w.heap.size ≤ g) : Only S w (putS w1 g f) :=
 (((h.st g 0 _ hg).st g 1 _ hg).st g 2 _ hg).st g 3 _ hg
theorem failO (g : Nat) (s : ByteArray) (p o x at' bad : Int) (w : World) (h : AtG w g 114 (rdr s p o 0 x)) :
  Calls Tryz.prog 99 #[.pointer (some ⟨g,0,none⟩),.int .i64 at',.int .i64 bad] w fun e w' => e = .returned (.tuple #[]) ∧ AtG w' g 114 (rdr s p o bad at') ∧ Only (fun k => k = g) w w' :=
 (fail_yes g s p o x at' bad w h).mono (by
  rintro e w' ⟨h1,h2,h3⟩
  exact ⟨h1,h2,by rw [h3];exact ((Only.refl (S := fun k => k = g) w).st g _ _ (.inl rfl)).st g _ _ (.inl rfl)⟩)
theorem rangeN (a b : Nat) (w : World) (ha : a < 256) (hb : b < 256) :
  Calls Tryz.prog 135 #[.int .u8 (a : Int),.int .u8 (b : Int)] w fun e w' => e = .returned (setOf (spanF a (b + 1))) ∧ Below w.heap.size w w' := by
 have := refRange_any (a : Int) (b : Int) w (by omega) (by omega) (by omega) (by omega)
 rw [Int.toNat_natCast,Int.toNat_natCast] at this
 exact this
set_option maxRecDepth 100000 in
set_option maxHeartbeats 1600000 in
theorem item_some (g : Nat) (s : ByteArray) (p : Nat) (o x : Int) (w : World) (h : AtG w g 114 (rdr s p o 0 x)) (hp : p ≤ s.size) (hm : s.size ≤ 1000) (h92 : ch s p = 92) (hn : p + 1 < s.size) (F : Nat → Bool) (hwd : wideF (ch s (p + 1)) = some F) :
  Calls Tryz.prog 128 #[.pointer (some ⟨g,0,none⟩)] w fun e w' => ∃ F : Nat → Bool,e = .returned (setOf F) ∧ StR s g o x (itemF s p) w' ∧ Only (fun k => k = g) w w' ∧ ∀ f q,itemF s p = .ok f q → F = f := by
 have HP := Lib.hid hp;have HM := Lib.hid hm
 have HR0 := Lib.hid (AtG.new w 38 (setC 0 0 0 0))
 have HA0 := Lib.hid (h.alloc (.cells (setC 0 0 0 0) 38))
 have HO0 := Lib.hid ((Only.refl (S := fun k => k = g) w).al (.cells (setC 0 0 0 0) 38))
 have HG : Hid (w.heap.size ≠ g) := Lib.hid (by have := h.lt;omega)
 have HG2 : Hid (g ≠ w.heap.size) := Lib.hid (by have := h.lt;omega)
 have HZ : Hid (w.heap.size ≤ w.heap.size) := Lib.hid (Nat.le_refl _)
 have HPK := Lib.hid (fun w h => peek_any g s p o x w h)
 have hif : ∀ c,ch s p = c → itemF s p = if c = 92 ∧ p + 1 < s.size then (match wideF (ch s (p + 1)) with | some f => .ok f (p + 2) | none => itemE s (memberF s p)) else itemE s (memberF s p) := fun c hc => by unfold itemF;rw [hc];rfl
 generalize ch s p = c at *
 rw [hif c rfl]
 clear hif h hp hm
 have hpI : (p : Int) < 1001 := by have := HP.out;have := HM.out;omega
 subst h92
 rw [if_pos ⟨rfl,hn⟩]
 have hnI : (p : Int) + 1 < (s.size : Int) := by omega
 have hwp : IntKind.i64.wrap ((p : Int) + 1) = (p : Int) + 1 := by rw [IntKind.wrap_i64];omega
 have hcl := ch_lt s (p + 1)
 obtain ⟨c1,hc1⟩ : ∃ c1,c1 = ch s (p + 1) := ⟨_,rfl⟩
 have hch : ((s[p + 1].toNat : Nat) : Int) = c1 := by rw [hc1,ch_in hn]
 rw [← hc1] at hcl hwd
 rw [← hc1,hwd]
 clear hc1
 have hwr : IntKind.i64.wrap c1 = c1 := by rw [IntKind.wrap_i64];omega
 have hV : wideV c1 = .tuple #[setOf F,.bool true] := by unfold wideV;rw [hwd]
 have HWD : Hid (∀ w,Calls Tryz.prog 111 #[.int .i64 c1] w fun e w' => e = .returned (.tuple #[setOf F,.bool true]) ∧ Below w.heap.size w w') := Lib.hid (fun w => by rw [← hV];exact wide_any _ w)
 clear hwd hV
 dsimp only
 go_enter Tryz.func128,Tryz.ntmps128
 go_upto_region 1 with (fail)
 have HPRE : Hid (∀ wx : World,(fun w' => AtG w' g 114 (rdr s p o 0 x) ∧ AtG w' w.heap.size 38 (setC 0 0 0 0) ∧ Only (fun k => k = g) w w') wx → wx.cell? ⟨g,1,none⟩ = some (.int .i64 (p : Int)) ∧ wx.cell? ⟨g,0,none⟩ = some (.string s)) := Lib.hid (by intro wx hj;have z1 : wx.cell? ⟨g,1,none⟩ = some (.int .i64 (p : Int)) := hj.1.cell 1 _ rfl;have z0 : wx.cell? ⟨g,0,none⟩ = some (.string s) := hj.1.cell 0 _ rfl;exact ⟨z1,z0⟩)
 refine Rg.wp_region_each (by kernel_rfl) (fun w' => AtG w' g 114 (rdr s p o 0 x) ∧ AtG w' w.heap.size 38 (setC 0 0 0 0) ∧ Only (fun k => k = g) w w') (fun w1 w2 h hb => ⟨h.1.below hb,h.2.1.below hb,h.2.2.tb hb⟩) (by kernel_rfl) (by kernel_rfl) (⟨HA0.out,HR0.out,HO0.out⟩) ?_
 show Rg.Build _ _ _ _ _ 0 [_,_,_,_,_,_,_,_,_,_,_,_,_,_,_,_] []
 refine Rg.cpe 1 rfl rfl (by intro ax wx hk Kx hK;have k0 := hk.base 0 _ rfl rfl;have hj := hk.j;clear hk;obtain ⟨z1,z0⟩ := HPRE.out _ hj;go_simp;exact Rg.ok hK) ?_
 refine Rg.cpe 2 rfl rfl (by intro ax wx hk Kx hK;have k7 := hk.e 0 7 rfl rfl rfl;have hj := hk.j;clear hk;obtain ⟨z1,z0⟩ := HPRE.out _ hj;go_simp;refine (HPK.out _ hj.1).mono ?_;rintro e w' ⟨rfl,hb⟩;refine hK _ _ ?_ hb;apply Rg.mk) ?_
 refine Rg.cp 3 (Rg.eq (.bool true)) rfl rfl (by intro ax wx hk Kx hK;have k8 := hk.e 1 8 rfl rfl rfl;have hj := hk.j;clear hk;obtain ⟨z1,z0⟩ := HPRE.out _ hj;(go_simp;refine hK _ _ ?_ (Below.refl _ _);simp [Rg.eq])) ?_
 refine Rg.cpe 4 rfl rfl (by intro ax wx hk Kx hK;have k9 := hk.e 2 9 rfl rfl rfl;have hj := hk.j;clear hk;obtain ⟨z1,z0⟩ := HPRE.out _ hj;go_simp;exact Rg.ok hK) ?_
 refine Rg.cye 5 3 10 true rfl rfl rfl rfl rfl (by intro ax wx hk Kx hK;have k0 := hk.base 0 _ rfl rfl;have hj := hk.j;clear hk;obtain ⟨z1,z0⟩ := HPRE.out _ hj;go_simp;exact Rg.ok hK) ?_
 refine Rg.cye 6 3 10 true rfl rfl rfl rfl rfl (by intro ax wx hk Kx hK;have k11 := hk.e 4 11 rfl rfl rfl;clear hk;go_simp;exact Rg.ok hK) ?_
 refine Rg.cye 7 3 10 true rfl rfl rfl rfl rfl (by intro ax wx hk Kx hK;have k12 := hk.e 5 12 rfl rfl rfl;clear hk;go_simp;exact Rg.ok hK) ?_
 refine Rg.cye 8 3 10 true rfl rfl rfl rfl rfl (by intro ax wx hk Kx hK;have k13 := hk.e 6 13 rfl rfl rfl;have hj := hk.j;clear hk;obtain ⟨z1,z0⟩ := HPRE.out _ hj;go_simp;exact Rg.ok hK) ?_
 refine Rg.cy 9 (Rg.eq (.int .i64 ((p : Int) + 1))) 3 10 true rfl rfl rfl rfl rfl (by intro ax wx hk Kx hK;have k14 := hk.e 7 14 rfl rfl rfl;have hj := hk.j;clear hk;obtain ⟨z1,z0⟩ := HPRE.out _ hj;(go_simp;refine hK _ _ ?_ (Below.refl _ _);simp [Rg.eq,hwp])) ?_
 refine Rg.cye 10 3 10 true rfl rfl rfl rfl rfl (by intro ax wx hk Kx hK;have k0 := hk.base 0 _ rfl rfl;have hj := hk.j;clear hk;obtain ⟨z1,z0⟩ := HPRE.out _ hj;go_simp;exact Rg.ok hK) ?_
 refine Rg.cye 11 3 10 true rfl rfl rfl rfl rfl (by intro ax wx hk Kx hK;have k16 := hk.e 9 16 rfl rfl rfl;clear hk;go_simp;exact Rg.ok hK) ?_
 refine Rg.cye 12 3 10 true rfl rfl rfl rfl rfl (by intro ax wx hk Kx hK;have k17 := hk.e 10 17 rfl rfl rfl;clear hk;go_simp;exact Rg.ok hK) ?_
 refine Rg.cye 13 3 10 true rfl rfl rfl rfl rfl (by intro ax wx hk Kx hK;have k18 := hk.e 11 18 rfl rfl rfl;have hj := hk.j;clear hk;obtain ⟨z1,z0⟩ := HPRE.out _ hj;go_simp;exact Rg.ok hK) ?_
 refine Rg.cye 14 3 10 true rfl rfl rfl rfl rfl (by intro ax wx hk Kx hK;have k19 := hk.e 12 19 rfl rfl rfl;have hj := hk.j;clear hk;obtain ⟨z1,z0⟩ := HPRE.out _ hj;go_simp;exact Rg.ok hK) ?_
 refine Rg.cy 15 (Rg.eq (.bool true)) 3 10 true rfl rfl rfl rfl rfl (by intro ax wx hk Kx hK;have k15 := hk.e 8 15 rfl rfl rfl;have k20 := hk.e 13 20 rfl rfl rfl;have hj := hk.j;clear hk;obtain ⟨z1,z0⟩ := HPRE.out _ hj;(go_simp;refine hK _ _ ?_ (Below.refl _ _);simp [Rg.eq,hnI])) ?_
 refine Rg.cpe 16 rfl rfl (by intro ax wx hk Kx hK;have k10 := hk.e 3 10 rfl rfl rfl;have k21 := hk.e 14 21 rfl rfl rfl;clear hk;go_simp;exact Rg.ok hK) ?_
 refine Rg.build_end fun wx hj => ?_
 iterate 16 refine Rg.fin_eq rfl ?_
 refine Rg.fin_nil ?_
 simp only [List.set_cons_zero,List.set_cons_succ]
 have HJ := Lib.hid hj;clear hj
 go_upto_region 2 with (fail)
 obtain ⟨w1,rfl⟩ : ∃ w1 : World,w1 = wx := ⟨_,rfl⟩
 refine RgX.start (by kernel_rfl) [(16,fun w5 w6 => ∃ gg f,w.heap.size < gg ∧ gg ≠ g ∧ w6 = putS w5 gg f)] [⟨fun w' => AtG w' g 114 (rdr s p o 0 x) ∧ AtG w' w.heap.size 38 (setC 0 0 0 0) ∧ Only (fun k => k = g) w w',none⟩] ⟨⟨fun _ _ h hb => ⟨h.1.below hb,h.2.1.below hb,h.2.2.tb hb⟩,⟨fun _ _ _ _ => (fun w5 w6 h he => by obtain ⟨gg,f,h1,h2,rfl⟩ := he;exact ⟨putS_far h.1 (fun e => h2 e.symm) _,putS_far h.2.1 (by omega) _,h.2.2.pS _ _ (.inr (by omega))⟩),trivial⟩⟩,trivial⟩ (by kernel_rfl) (by kernel_rfl) ⟨⟨HJ.out.1.drew,HJ.out.2.1.drew,HJ.out.2.2.drew⟩,trivial⟩ ?_
 show RgX.Build _ _ _ _ _ _ 0 [_,_,_,_,_,_,_,_,_,_,_,_,_,_,_,_,_,_] []
 refine RgX.cp 1 rfl rfl (by intro ax wx hk Kx hK;have k0 := hk.base 0 _ rfl rfl;have hL := hk.fact 0 0 _ rfl rfl;(try dsimp only at hL);clear hk;have z1 : wx.cell? ⟨g,1,none⟩ = some (.int .i64 (p : Int)) := hL.1.cell 1 _ rfl;have z0 : wx.cell? ⟨g,0,none⟩ = some (.string s) := hL.1.cell 0 _ rfl;go_simp;exact hK _ _ (fun h => by cases h) (fun _ _ => rfl) (Below.refl _ _)) ?_
 refine RgX.cp 2 rfl rfl (by intro ax wx hk Kx hK;have k24 := hk.e 0 0 24 rfl rfl rfl;clear hk;go_simp;exact hK _ _ (fun h => by cases h) (fun _ _ => rfl) (Below.refl _ _)) ?_
 refine RgX.cp 3 rfl rfl (by intro ax wx hk Kx hK;have k25 := hk.e 0 1 25 rfl rfl rfl;clear hk;go_simp;exact hK _ _ (fun h => by cases h) (fun _ _ => rfl) (Below.refl _ _)) ?_
 refine RgX.cp 4 rfl rfl (by intro ax wx hk Kx hK;have k26 := hk.e 0 2 26 rfl rfl rfl;have hL := hk.fact 0 0 _ rfl rfl;(try dsimp only at hL);clear hk;have z1 : wx.cell? ⟨g,1,none⟩ = some (.int .i64 (p : Int)) := hL.1.cell 1 _ rfl;have z0 : wx.cell? ⟨g,0,none⟩ = some (.string s) := hL.1.cell 0 _ rfl;go_simp;exact hK _ _ (fun h => by cases h) (fun _ _ => rfl) (Below.refl _ _)) ?_
 refine RgX.cp 5 rfl rfl (by intro ax wx hk Kx hK;have k0 := hk.base 0 _ rfl rfl;have hL := hk.fact 0 0 _ rfl rfl;(try dsimp only at hL);clear hk;have z1 : wx.cell? ⟨g,1,none⟩ = some (.int .i64 (p : Int)) := hL.1.cell 1 _ rfl;have z0 : wx.cell? ⟨g,0,none⟩ = some (.string s) := hL.1.cell 0 _ rfl;go_simp;exact hK _ _ (fun h => by cases h) (fun _ _ => rfl) (Below.refl _ _)) ?_
 refine RgX.cp 6 rfl rfl (by intro ax wx hk Kx hK;have k28 := hk.e 0 4 28 rfl rfl rfl;clear hk;go_simp;exact hK _ _ (fun h => by cases h) (fun _ _ => rfl) (Below.refl _ _)) ?_
 refine RgX.cp 7 rfl rfl (by intro ax wx hk Kx hK;have k29 := hk.e 0 5 29 rfl rfl rfl;clear hk;go_simp;exact hK _ _ (fun h => by cases h) (fun _ _ => rfl) (Below.refl _ _)) ?_
 refine RgX.cp 8 rfl rfl (by intro ax wx hk Kx hK;have k30 := hk.e 0 6 30 rfl rfl rfl;have hL := hk.fact 0 0 _ rfl rfl;(try dsimp only at hL);clear hk;have z1 : wx.cell? ⟨g,1,none⟩ = some (.int .i64 (p : Int)) := hL.1.cell 1 _ rfl;have z0 : wx.cell? ⟨g,0,none⟩ = some (.string s) := hL.1.cell 0 _ rfl;go_simp;exact hK _ _ (fun h => by cases h) (fun _ _ => rfl) (Below.refl _ _)) ?_
 refine RgX.cp 9 (X := (.int .i64 ((p : Int) + 1))) rfl rfl (by intro ax wx hk Kx hK;have k31 := hk.e 0 7 31 rfl rfl rfl;have hL := hk.fact 0 0 _ rfl rfl;(try dsimp only at hL);clear hk;have z1 : wx.cell? ⟨g,1,none⟩ = some (.int .i64 (p : Int)) := hL.1.cell 1 _ rfl;have z0 : wx.cell? ⟨g,0,none⟩ = some (.string s) := hL.1.cell 0 _ rfl;(go_simp;refine hK _ _ (fun h => by cases h) (fun _ _ => ?_) (Below.refl _ _);simp [RgX.eq,hwp])) ?_
 refine RgX.cp 10 (X := (.int .u8 (c1))) rfl rfl (by intro ax wx hk Kx hK;have k27 := hk.e 0 3 27 rfl rfl rfl;have k32 := hk.e 0 8 32 rfl rfl rfl;have hL := hk.fact 0 0 _ rfl rfl;(try dsimp only at hL);clear hk;have z1 : wx.cell? ⟨g,1,none⟩ = some (.int .i64 (p : Int)) := hL.1.cell 1 _ rfl;have z0 : wx.cell? ⟨g,0,none⟩ = some (.string s) := hL.1.cell 0 _ rfl;(go_simp;refine hK _ _ (fun h => by cases h) (fun _ _ => ?_) (Below.refl _ _);simp [RgX.eq,hch])) ?_
 refine RgX.cp 11 (X := (.int .i64 (c1))) rfl rfl (by intro ax wx hk Kx hK;have k33 := hk.e 0 9 33 rfl rfl rfl;have hL := hk.fact 0 0 _ rfl rfl;(try dsimp only at hL);clear hk;have z1 : wx.cell? ⟨g,1,none⟩ = some (.int .i64 (p : Int)) := hL.1.cell 1 _ rfl;have z0 : wx.cell? ⟨g,0,none⟩ = some (.string s) := hL.1.cell 0 _ rfl;(go_simp;refine hK _ _ (fun h => by cases h) (fun _ _ => ?_) (Below.refl _ _);simp [RgX.eq,hwr])) ?_
 refine RgX.cp 12 rfl rfl (by intro ax wx hk Kx hK;have k34 := hk.e 0 10 34 rfl rfl rfl;have hL := hk.fact 0 0 _ rfl rfl;(try dsimp only at hL);clear hk;have z1 : wx.cell? ⟨g,1,none⟩ = some (.int .i64 (p : Int)) := hL.1.cell 1 _ rfl;have z0 : wx.cell? ⟨g,0,none⟩ = some (.string s) := hL.1.cell 0 _ rfl;go_simp;refine (HWD.out _).mono ?_;rintro e w' ⟨rfl,hb⟩;refine hK _ _ (fun h => by cases h) (fun _ _ => ?_) hb;apply RgX.mk) ?_
 refine RgX.cp 13 rfl rfl (by intro ax wx hk Kx hK;have k35 := hk.e 0 11 35 rfl rfl rfl;have hL := hk.fact 0 0 _ rfl rfl;(try dsimp only at hL);clear hk;have z1 : wx.cell? ⟨g,1,none⟩ = some (.int .i64 (p : Int)) := hL.1.cell 1 _ rfl;have z0 : wx.cell? ⟨g,0,none⟩ = some (.string s) := hL.1.cell 0 _ rfl;go_simp;exact hK _ _ (fun h => by cases h) (fun _ _ => rfl) (Below.refl _ _)) ?_
 refine RgX.cp 14 rfl rfl (by intro ax wx hk Kx hK;have k23 := hk.e 0 12 23 rfl rfl rfl;clear hk;go_simp;exact hK _ _ (fun h => by cases h) (fun _ _ => rfl) (Below.refl _ _)) ?_
 refine RgX.cp 15 rfl rfl (by intro ax wx hk Kx hK;have k23 := hk.e 0 12 23 rfl rfl rfl;clear hk;go_simp;exact hK _ _ (fun h => by cases h) (fun _ _ => rfl) (Below.refl _ _)) ?_
 refine RgX.build_cons (m := 16) (r := (⟨fun v _ w5 => ∃ gg,v = .pointer (some ⟨gg,0,none⟩) ∧ w.heap.size < gg ∧ gg ≠ g ∧ AtG w5 gg 38 (setC 0 0 0 0),some 16,none⟩ : RgX.Rl)) (RgX.one_plain rfl (by intro ax wx hk Kx hK;have hL := hk.fact 0 0 _ rfl rfl;(try dsimp only at hL);clear hk;have z1 : wx.cell? ⟨g,1,none⟩ = some (.int .i64 (p : Int)) := hL.1.cell 1 _ rfl;have z0 : wx.cell? ⟨g,0,none⟩ = some (.string s) := hL.1.cell 0 _ rfl;(go_simp;exact hK _ _ (fun h => by cases h) (fun u _ => ⟨wx.heap.size,rfl,hL.2.1.lt,by have := hL.1.lt;omega,AtG.new _ _ _⟩) ((Below.refl _ _).alloc (Nat.le_refl _) _)))) ?_ rfl (RgX.keep_r (fun _ _ _ _ h hb => by obtain ⟨gg,h1,h2,h3,h4⟩ := h;exact ⟨gg,h1,h2,h3,h4.below hb⟩) (fun _ _ => ⟨fun _ h _ _ => absurd rfl h,trivial⟩)) (fun _ h => by cases h)
 refine RgX.build_cons (m := 17) (r := (⟨fun _ u w5 => ∃ gg,u = .pointer (some ⟨gg,0,none⟩) ∧ w.heap.size < gg ∧ gg ≠ g ∧ AtG w5 gg 38 (cellsOf F),none,some 15⟩ : RgX.Rl)) (RgX.one_plain rfl (by intro ax wx hk Kx hK;obtain ⟨v3,k3,h3⟩ := hk.dep 0 15 3 _ rfl rfl rfl;(first | (replace h3 := h3 9 undef rfl rfl;first | (cases (h3 : v3 = _)) | (obtain ⟨rfl,h3⟩ := h3) | skip) | skip);have k36 := hk.e 0 13 36 rfl rfl rfl;have hL := hk.fact 0 0 _ rfl rfl;(try dsimp only at hL);clear hk;have z1 : wx.cell? ⟨g,1,none⟩ = some (.int .i64 (p : Int)) := hL.1.cell 1 _ rfl;have z0 : wx.cell? ⟨g,0,none⟩ = some (.string s) := hL.1.cell 0 _ rfl;(obtain ⟨gg,rfl,hg0,hg1,hg2⟩ := h3;have d0 := hg2.cell 0 _ rfl;have d1 := hg2.cell 1 _ rfl;have d2 := hg2.cell 2 _ rfl;have d3 := hg2.cell 3 _ rfl;have f0 := hg2.frozen 0;have f1 := hg2.frozen 1;have f2 := hg2.frozen 2;have f3 := hg2.frozen 3;unfold setOf at k36;go_simp;refine hK undef (putS wx gg F) (fun _ => rfl) (fun u hu => ?_) ⟨gg,F,hg0,hg1,rfl⟩;obtain ⟨t,ht,hu⟩ := hu;cases ht;rw [k3] at hu;cases hu;exact ⟨gg,rfl,hg0,hg1,putS_at hg2 F⟩))) ?_ rfl (RgX.keep_r (fun _ _ _ _ h hb => by obtain ⟨gg,h1,h2,h3,h4⟩ := h;exact ⟨gg,h1,h2,h3,h4.below hb⟩) (fun _ _ => ⟨fun h _ _ _ => absurd rfl h,trivial⟩)) (fun j h => by cases h;exact ⟨0,rfl⟩)
 refine RgX.cp 18 rfl rfl (by intro ax wx hk Kx hK;have k37 := hk.e 0 14 37 rfl rfl rfl;have hL := hk.fact 0 0 _ rfl rfl;(try dsimp only at hL);clear hk;have z1 : wx.cell? ⟨g,1,none⟩ = some (.int .i64 (p : Int)) := hL.1.cell 1 _ rfl;have z0 : wx.cell? ⟨g,0,none⟩ = some (.string s) := hL.1.cell 0 _ rfl;go_simp;exact hK _ _ (fun h => by cases h) (fun _ _ => rfl) (Below.refl _ _)) ?_
 refine RgX.build_end fun wx hj => ?_
 have hL := hj 0 _ rfl rfl
 clear hj
 iterate 15 refine RgX.fin_eq rfl ?_
 first | refine RgX.fin_eq rfl ?_ | refine RgX.fin_any rfl fun v3 h3 => ?_
 refine RgX.fin_none rfl fun s16 => ?_
 refine RgX.fin_eq rfl ?_
 refine RgX.fin_nil ?_
 simp only [List.set_cons_zero,List.set_cons_succ]
 clear h3
 obtain ⟨gg,rfl,hg0,hg1,hg2⟩ := s16 rfl v3 ⟨3,by kernel_rfl,by kernel_rfl⟩
 have HA := Lib.hid hL.1;have HR := Lib.hid hL.2.1;have HO := Lib.hid hL.2.2
 clear hL s16 HJ
 have hwp2 : IntKind.i64.wrap ((p : Int) + 2) = (p : Int) + 2 := by rw [IntKind.wrap_i64];omega
 have z1 : wx.cell? ⟨g,1,none⟩ = some (.int .i64 (p : Int)) := HA.out.cell 1 _ rfl
 have y1 := HA.out.frozen 1
 have c0 : wx.cell? ⟨gg,0,none⟩ = some (.int .u64 ((wd F 0 : Nat) : Int)) := hg2.cell 0 _ rfl;have c1 : wx.cell? ⟨gg,1,none⟩ = some (.int .u64 ((wd F 1 : Nat) : Int)) := hg2.cell 1 _ rfl;have c2 : wx.cell? ⟨gg,2,none⟩ = some (.int .u64 ((wd F 2 : Nat) : Int)) := hg2.cell 2 _ rfl;have c3 : wx.cell? ⟨gg,3,none⟩ = some (.int .u64 ((wd F 3 : Nat) : Int)) := hg2.cell 3 _ rfl
 have d0 := (HR.out).cell 0 _ rfl;have d1 := (HR.out).cell 1 _ rfl;have d2 := (HR.out).cell 2 _ rfl;have d3 := (HR.out).cell 3 _ rfl
 have f0 := (HR.out).frozen 0;have f1 := (HR.out).frozen 1;have f2 := (HR.out).frozen 2;have f3 := (HR.out).frozen 3
 have hn1 := HG.out;have hn2 := HG2.out
 clear hg2
 go_wp2_with fail
 refine bodyPost_ret (v := setOf F) (by simp [results,Tryz.results128,go_sem,d0,d1,d2,d3,hn1,hn2];try rfl) rfl ⟨F,rfl,?_,?_,by first | exact (fun a q h => by injection h) | rfl⟩
 ·have hx : AtG (wx.setCell ⟨g,1,none⟩ (.int .i64 ((p : Int) + 2))) g 114 (rdr s ((p + 2 : Nat) : Int) o 0 x) := by
   rw [show ((p + 2 : Nat) : Int) = (p : Int) + 2 from by omega];exact HA.out.set 1 _
  exact putS_far hx HG2.out F
 ·exact (HO.out.st g 1 _ (.inl rfl)).pS _ F (.inr (Nat.le_refl _))
set_option maxRecDepth 100000 in
set_option maxHeartbeats 1600000 in
theorem item_none (g : Nat) (s : ByteArray) (p : Nat) (o x : Int) (w : World) (h : AtG w g 114 (rdr s p o 0 x)) (hp : p ≤ s.size) (hm : s.size ≤ 1000) (h92 : ch s p = 92) (hn : p + 1 < s.size) (hwd : wideF (ch s (p + 1)) = none) :
  Calls Tryz.prog 128 #[.pointer (some ⟨g,0,none⟩)] w fun e w' => ∃ F : Nat → Bool,e = .returned (setOf F) ∧ StR s g o x (itemF s p) w' ∧ Only (fun k => k = g) w w' ∧ ∀ f q,itemF s p = .ok f q → F = f := by
 have HP := Lib.hid hp;have HM := Lib.hid hm
 have HR0 := Lib.hid (AtG.new w 38 (setC 0 0 0 0))
 have HA0 := Lib.hid (h.alloc (.cells (setC 0 0 0 0) 38))
 have HO0 := Lib.hid ((Only.refl (S := fun k => k = g) w).al (.cells (setC 0 0 0 0) 38))
 have HG : Hid (w.heap.size ≠ g) := Lib.hid (by have := h.lt;omega)
 have HG2 : Hid (g ≠ w.heap.size) := Lib.hid (by have := h.lt;omega)
 have HZ : Hid (w.heap.size ≤ w.heap.size) := Lib.hid (Nat.le_refl _)
 have HPK := Lib.hid (fun w h => peek_any g s p o x w h)
 have hif : ∀ c,ch s p = c → itemF s p = if c = 92 ∧ p + 1 < s.size then (match wideF (ch s (p + 1)) with | some f => .ok f (p + 2) | none => itemE s (memberF s p)) else itemE s (memberF s p) := fun c hc => by unfold itemF;rw [hc];rfl
 generalize ch s p = c at *
 rw [hif c rfl]
 clear hif h hp hm
 have hpI : (p : Int) < 1001 := by have := HP.out;have := HM.out;omega
 subst h92
 rw [if_pos ⟨rfl,hn⟩]
 have hnI : (p : Int) + 1 < (s.size : Int) := by omega
 have hwp : IntKind.i64.wrap ((p : Int) + 1) = (p : Int) + 1 := by rw [IntKind.wrap_i64];omega
 have hcl := ch_lt s (p + 1)
 obtain ⟨c1,hc1⟩ : ∃ c1,c1 = ch s (p + 1) := ⟨_,rfl⟩
 have hch : ((s[p + 1].toNat : Nat) : Int) = c1 := by rw [hc1,ch_in hn]
 rw [← hc1] at hcl hwd
 rw [← hc1,hwd]
 clear hc1
 have hwr : IntKind.i64.wrap c1 = c1 := by rw [IntKind.wrap_i64];omega
 have hV : wideV c1 = .tuple #[setOf emp,.bool false] := by unfold wideV;rw [hwd]
 obtain ⟨F,hF⟩ : ∃ F,F = emp := ⟨_,rfl⟩
 rw [← hF] at hV
 have HWD : Hid (∀ w,Calls Tryz.prog 111 #[.int .i64 c1] w fun e w' => e = .returned (.tuple #[setOf F,.bool false]) ∧ Below w.heap.size w w') := Lib.hid (fun w => by rw [← hV];exact wide_any _ w)
 clear hwd hV hF
 dsimp only
 obtain ⟨R,hR⟩ : ∃ R,R = itemE s (memberF s p) := ⟨_,rfl⟩
 rw [← hR]
 have HR0X := Lib.hid hR
 clear hR
 go_enter Tryz.func128,Tryz.ntmps128
 go_upto_region 1 with (fail)
 have HPRE : Hid (∀ wx : World,(fun w' => AtG w' g 114 (rdr s p o 0 x) ∧ AtG w' w.heap.size 38 (setC 0 0 0 0) ∧ Only (fun k => k = g) w w') wx → wx.cell? ⟨g,1,none⟩ = some (.int .i64 (p : Int)) ∧ wx.cell? ⟨g,0,none⟩ = some (.string s)) := Lib.hid (by intro wx hj;have z1 : wx.cell? ⟨g,1,none⟩ = some (.int .i64 (p : Int)) := hj.1.cell 1 _ rfl;have z0 : wx.cell? ⟨g,0,none⟩ = some (.string s) := hj.1.cell 0 _ rfl;exact ⟨z1,z0⟩)
 refine Rg.wp_region_each (by kernel_rfl) (fun w' => AtG w' g 114 (rdr s p o 0 x) ∧ AtG w' w.heap.size 38 (setC 0 0 0 0) ∧ Only (fun k => k = g) w w') (fun w1 w2 h hb => ⟨h.1.below hb,h.2.1.below hb,h.2.2.tb hb⟩) (by kernel_rfl) (by kernel_rfl) (⟨HA0.out,HR0.out,HO0.out⟩) ?_
 show Rg.Build _ _ _ _ _ 0 [_,_,_,_,_,_,_,_,_,_,_,_,_,_,_,_] []
 refine Rg.cpe 1 rfl rfl (by intro ax wx hk Kx hK;have k0 := hk.base 0 _ rfl rfl;have hj := hk.j;clear hk;obtain ⟨z1,z0⟩ := HPRE.out _ hj;go_simp;exact Rg.ok hK) ?_
 refine Rg.cpe 2 rfl rfl (by intro ax wx hk Kx hK;have k7 := hk.e 0 7 rfl rfl rfl;have hj := hk.j;clear hk;obtain ⟨z1,z0⟩ := HPRE.out _ hj;go_simp;refine (HPK.out _ hj.1).mono ?_;rintro e w' ⟨rfl,hb⟩;refine hK _ _ ?_ hb;apply Rg.mk) ?_
 refine Rg.cp 3 (Rg.eq (.bool true)) rfl rfl (by intro ax wx hk Kx hK;have k8 := hk.e 1 8 rfl rfl rfl;have hj := hk.j;clear hk;obtain ⟨z1,z0⟩ := HPRE.out _ hj;(go_simp;refine hK _ _ ?_ (Below.refl _ _);simp [Rg.eq])) ?_
 refine Rg.cpe 4 rfl rfl (by intro ax wx hk Kx hK;have k9 := hk.e 2 9 rfl rfl rfl;have hj := hk.j;clear hk;obtain ⟨z1,z0⟩ := HPRE.out _ hj;go_simp;exact Rg.ok hK) ?_
 refine Rg.cye 5 3 10 true rfl rfl rfl rfl rfl (by intro ax wx hk Kx hK;have k0 := hk.base 0 _ rfl rfl;have hj := hk.j;clear hk;obtain ⟨z1,z0⟩ := HPRE.out _ hj;go_simp;exact Rg.ok hK) ?_
 refine Rg.cye 6 3 10 true rfl rfl rfl rfl rfl (by intro ax wx hk Kx hK;have k11 := hk.e 4 11 rfl rfl rfl;clear hk;go_simp;exact Rg.ok hK) ?_
 refine Rg.cye 7 3 10 true rfl rfl rfl rfl rfl (by intro ax wx hk Kx hK;have k12 := hk.e 5 12 rfl rfl rfl;clear hk;go_simp;exact Rg.ok hK) ?_
 refine Rg.cye 8 3 10 true rfl rfl rfl rfl rfl (by intro ax wx hk Kx hK;have k13 := hk.e 6 13 rfl rfl rfl;have hj := hk.j;clear hk;obtain ⟨z1,z0⟩ := HPRE.out _ hj;go_simp;exact Rg.ok hK) ?_
 refine Rg.cy 9 (Rg.eq (.int .i64 ((p : Int) + 1))) 3 10 true rfl rfl rfl rfl rfl (by intro ax wx hk Kx hK;have k14 := hk.e 7 14 rfl rfl rfl;have hj := hk.j;clear hk;obtain ⟨z1,z0⟩ := HPRE.out _ hj;(go_simp;refine hK _ _ ?_ (Below.refl _ _);simp [Rg.eq,hwp])) ?_
 refine Rg.cye 10 3 10 true rfl rfl rfl rfl rfl (by intro ax wx hk Kx hK;have k0 := hk.base 0 _ rfl rfl;have hj := hk.j;clear hk;obtain ⟨z1,z0⟩ := HPRE.out _ hj;go_simp;exact Rg.ok hK) ?_
 refine Rg.cye 11 3 10 true rfl rfl rfl rfl rfl (by intro ax wx hk Kx hK;have k16 := hk.e 9 16 rfl rfl rfl;clear hk;go_simp;exact Rg.ok hK) ?_
 refine Rg.cye 12 3 10 true rfl rfl rfl rfl rfl (by intro ax wx hk Kx hK;have k17 := hk.e 10 17 rfl rfl rfl;clear hk;go_simp;exact Rg.ok hK) ?_
 refine Rg.cye 13 3 10 true rfl rfl rfl rfl rfl (by intro ax wx hk Kx hK;have k18 := hk.e 11 18 rfl rfl rfl;have hj := hk.j;clear hk;obtain ⟨z1,z0⟩ := HPRE.out _ hj;go_simp;exact Rg.ok hK) ?_
 refine Rg.cye 14 3 10 true rfl rfl rfl rfl rfl (by intro ax wx hk Kx hK;have k19 := hk.e 12 19 rfl rfl rfl;have hj := hk.j;clear hk;obtain ⟨z1,z0⟩ := HPRE.out _ hj;go_simp;exact Rg.ok hK) ?_
 refine Rg.cy 15 (Rg.eq (.bool true)) 3 10 true rfl rfl rfl rfl rfl (by intro ax wx hk Kx hK;have k15 := hk.e 8 15 rfl rfl rfl;have k20 := hk.e 13 20 rfl rfl rfl;have hj := hk.j;clear hk;obtain ⟨z1,z0⟩ := HPRE.out _ hj;(go_simp;refine hK _ _ ?_ (Below.refl _ _);simp [Rg.eq,hnI])) ?_
 refine Rg.cpe 16 rfl rfl (by intro ax wx hk Kx hK;have k10 := hk.e 3 10 rfl rfl rfl;have k21 := hk.e 14 21 rfl rfl rfl;clear hk;go_simp;exact Rg.ok hK) ?_
 refine Rg.build_end fun wx hj => ?_
 iterate 16 refine Rg.fin_eq rfl ?_
 refine Rg.fin_nil ?_
 simp only [List.set_cons_zero,List.set_cons_succ]
 have HJ := Lib.hid hj;clear hj
 go_upto_region 2 with (fail)
 obtain ⟨w1,rfl⟩ : ∃ w1 : World,w1 = wx := ⟨_,rfl⟩
 refine RgX.start (by kernel_rfl) [(16,fun w5 w6 => ∃ gg f,w.heap.size < gg ∧ gg ≠ g ∧ w6 = putS w5 gg f)] [⟨fun w' => AtG w' g 114 (rdr s p o 0 x) ∧ AtG w' w.heap.size 38 (setC 0 0 0 0) ∧ Only (fun k => k = g) w w',none⟩] ⟨⟨fun _ _ h hb => ⟨h.1.below hb,h.2.1.below hb,h.2.2.tb hb⟩,⟨fun _ _ _ _ => (fun w5 w6 h he => by obtain ⟨gg,f,h1,h2,rfl⟩ := he;exact ⟨putS_far h.1 (fun e => h2 e.symm) _,putS_far h.2.1 (by omega) _,h.2.2.pS _ _ (.inr (by omega))⟩),trivial⟩⟩,trivial⟩ (by kernel_rfl) (by kernel_rfl) ⟨⟨HJ.out.1.drew,HJ.out.2.1.drew,HJ.out.2.2.drew⟩,trivial⟩ ?_
 show RgX.Build _ _ _ _ _ _ 0 [_,_,_,_,_,_,_,_,_,_,_,_,_,_,_,_,_,_] []
 refine RgX.cp 1 rfl rfl (by intro ax wx hk Kx hK;have k0 := hk.base 0 _ rfl rfl;have hL := hk.fact 0 0 _ rfl rfl;(try dsimp only at hL);clear hk;have z1 : wx.cell? ⟨g,1,none⟩ = some (.int .i64 (p : Int)) := hL.1.cell 1 _ rfl;have z0 : wx.cell? ⟨g,0,none⟩ = some (.string s) := hL.1.cell 0 _ rfl;go_simp;exact hK _ _ (fun h => by cases h) (fun _ _ => rfl) (Below.refl _ _)) ?_
 refine RgX.cp 2 rfl rfl (by intro ax wx hk Kx hK;have k24 := hk.e 0 0 24 rfl rfl rfl;clear hk;go_simp;exact hK _ _ (fun h => by cases h) (fun _ _ => rfl) (Below.refl _ _)) ?_
 refine RgX.cp 3 rfl rfl (by intro ax wx hk Kx hK;have k25 := hk.e 0 1 25 rfl rfl rfl;clear hk;go_simp;exact hK _ _ (fun h => by cases h) (fun _ _ => rfl) (Below.refl _ _)) ?_
 refine RgX.cp 4 rfl rfl (by intro ax wx hk Kx hK;have k26 := hk.e 0 2 26 rfl rfl rfl;have hL := hk.fact 0 0 _ rfl rfl;(try dsimp only at hL);clear hk;have z1 : wx.cell? ⟨g,1,none⟩ = some (.int .i64 (p : Int)) := hL.1.cell 1 _ rfl;have z0 : wx.cell? ⟨g,0,none⟩ = some (.string s) := hL.1.cell 0 _ rfl;go_simp;exact hK _ _ (fun h => by cases h) (fun _ _ => rfl) (Below.refl _ _)) ?_
 refine RgX.cp 5 rfl rfl (by intro ax wx hk Kx hK;have k0 := hk.base 0 _ rfl rfl;have hL := hk.fact 0 0 _ rfl rfl;(try dsimp only at hL);clear hk;have z1 : wx.cell? ⟨g,1,none⟩ = some (.int .i64 (p : Int)) := hL.1.cell 1 _ rfl;have z0 : wx.cell? ⟨g,0,none⟩ = some (.string s) := hL.1.cell 0 _ rfl;go_simp;exact hK _ _ (fun h => by cases h) (fun _ _ => rfl) (Below.refl _ _)) ?_
 refine RgX.cp 6 rfl rfl (by intro ax wx hk Kx hK;have k28 := hk.e 0 4 28 rfl rfl rfl;clear hk;go_simp;exact hK _ _ (fun h => by cases h) (fun _ _ => rfl) (Below.refl _ _)) ?_
 refine RgX.cp 7 rfl rfl (by intro ax wx hk Kx hK;have k29 := hk.e 0 5 29 rfl rfl rfl;clear hk;go_simp;exact hK _ _ (fun h => by cases h) (fun _ _ => rfl) (Below.refl _ _)) ?_
 refine RgX.cp 8 rfl rfl (by intro ax wx hk Kx hK;have k30 := hk.e 0 6 30 rfl rfl rfl;have hL := hk.fact 0 0 _ rfl rfl;(try dsimp only at hL);clear hk;have z1 : wx.cell? ⟨g,1,none⟩ = some (.int .i64 (p : Int)) := hL.1.cell 1 _ rfl;have z0 : wx.cell? ⟨g,0,none⟩ = some (.string s) := hL.1.cell 0 _ rfl;go_simp;exact hK _ _ (fun h => by cases h) (fun _ _ => rfl) (Below.refl _ _)) ?_
 refine RgX.cp 9 (X := (.int .i64 ((p : Int) + 1))) rfl rfl (by intro ax wx hk Kx hK;have k31 := hk.e 0 7 31 rfl rfl rfl;have hL := hk.fact 0 0 _ rfl rfl;(try dsimp only at hL);clear hk;have z1 : wx.cell? ⟨g,1,none⟩ = some (.int .i64 (p : Int)) := hL.1.cell 1 _ rfl;have z0 : wx.cell? ⟨g,0,none⟩ = some (.string s) := hL.1.cell 0 _ rfl;(go_simp;refine hK _ _ (fun h => by cases h) (fun _ _ => ?_) (Below.refl _ _);simp [RgX.eq,hwp])) ?_
 refine RgX.cp 10 (X := (.int .u8 (c1))) rfl rfl (by intro ax wx hk Kx hK;have k27 := hk.e 0 3 27 rfl rfl rfl;have k32 := hk.e 0 8 32 rfl rfl rfl;have hL := hk.fact 0 0 _ rfl rfl;(try dsimp only at hL);clear hk;have z1 : wx.cell? ⟨g,1,none⟩ = some (.int .i64 (p : Int)) := hL.1.cell 1 _ rfl;have z0 : wx.cell? ⟨g,0,none⟩ = some (.string s) := hL.1.cell 0 _ rfl;(go_simp;refine hK _ _ (fun h => by cases h) (fun _ _ => ?_) (Below.refl _ _);simp [RgX.eq,hch])) ?_
 refine RgX.cp 11 (X := (.int .i64 (c1))) rfl rfl (by intro ax wx hk Kx hK;have k33 := hk.e 0 9 33 rfl rfl rfl;have hL := hk.fact 0 0 _ rfl rfl;(try dsimp only at hL);clear hk;have z1 : wx.cell? ⟨g,1,none⟩ = some (.int .i64 (p : Int)) := hL.1.cell 1 _ rfl;have z0 : wx.cell? ⟨g,0,none⟩ = some (.string s) := hL.1.cell 0 _ rfl;(go_simp;refine hK _ _ (fun h => by cases h) (fun _ _ => ?_) (Below.refl _ _);simp [RgX.eq,hwr])) ?_
 refine RgX.cp 12 rfl rfl (by intro ax wx hk Kx hK;have k34 := hk.e 0 10 34 rfl rfl rfl;have hL := hk.fact 0 0 _ rfl rfl;(try dsimp only at hL);clear hk;have z1 : wx.cell? ⟨g,1,none⟩ = some (.int .i64 (p : Int)) := hL.1.cell 1 _ rfl;have z0 : wx.cell? ⟨g,0,none⟩ = some (.string s) := hL.1.cell 0 _ rfl;go_simp;refine (HWD.out _).mono ?_;rintro e w' ⟨rfl,hb⟩;refine hK _ _ (fun h => by cases h) (fun _ _ => ?_) hb;apply RgX.mk) ?_
 refine RgX.cp 13 rfl rfl (by intro ax wx hk Kx hK;have k35 := hk.e 0 11 35 rfl rfl rfl;have hL := hk.fact 0 0 _ rfl rfl;(try dsimp only at hL);clear hk;have z1 : wx.cell? ⟨g,1,none⟩ = some (.int .i64 (p : Int)) := hL.1.cell 1 _ rfl;have z0 : wx.cell? ⟨g,0,none⟩ = some (.string s) := hL.1.cell 0 _ rfl;go_simp;exact hK _ _ (fun h => by cases h) (fun _ _ => rfl) (Below.refl _ _)) ?_
 refine RgX.cp 14 rfl rfl (by intro ax wx hk Kx hK;have k23 := hk.e 0 12 23 rfl rfl rfl;clear hk;go_simp;exact hK _ _ (fun h => by cases h) (fun _ _ => rfl) (Below.refl _ _)) ?_
 refine RgX.cp 15 rfl rfl (by intro ax wx hk Kx hK;have k23 := hk.e 0 12 23 rfl rfl rfl;clear hk;go_simp;exact hK _ _ (fun h => by cases h) (fun _ _ => rfl) (Below.refl _ _)) ?_
 refine RgX.build_cons (m := 16) (r := (⟨fun v _ w5 => ∃ gg,v = .pointer (some ⟨gg,0,none⟩) ∧ w.heap.size < gg ∧ gg ≠ g ∧ AtG w5 gg 38 (setC 0 0 0 0),some 16,none⟩ : RgX.Rl)) (RgX.one_plain rfl (by intro ax wx hk Kx hK;have hL := hk.fact 0 0 _ rfl rfl;(try dsimp only at hL);clear hk;have z1 : wx.cell? ⟨g,1,none⟩ = some (.int .i64 (p : Int)) := hL.1.cell 1 _ rfl;have z0 : wx.cell? ⟨g,0,none⟩ = some (.string s) := hL.1.cell 0 _ rfl;(go_simp;exact hK _ _ (fun h => by cases h) (fun u _ => ⟨wx.heap.size,rfl,hL.2.1.lt,by have := hL.1.lt;omega,AtG.new _ _ _⟩) ((Below.refl _ _).alloc (Nat.le_refl _) _)))) ?_ rfl (RgX.keep_r (fun _ _ _ _ h hb => by obtain ⟨gg,h1,h2,h3,h4⟩ := h;exact ⟨gg,h1,h2,h3,h4.below hb⟩) (fun _ _ => ⟨fun _ h _ _ => absurd rfl h,trivial⟩)) (fun _ h => by cases h)
 refine RgX.build_cons (m := 17) (r := (⟨fun _ u w5 => ∃ gg,u = .pointer (some ⟨gg,0,none⟩) ∧ w.heap.size < gg ∧ gg ≠ g ∧ AtG w5 gg 38 (cellsOf F),none,some 15⟩ : RgX.Rl)) (RgX.one_plain rfl (by intro ax wx hk Kx hK;obtain ⟨v3,k3,h3⟩ := hk.dep 0 15 3 _ rfl rfl rfl;(first | (replace h3 := h3 9 undef rfl rfl;first | (cases (h3 : v3 = _)) | (obtain ⟨rfl,h3⟩ := h3) | skip) | skip);have k36 := hk.e 0 13 36 rfl rfl rfl;have hL := hk.fact 0 0 _ rfl rfl;(try dsimp only at hL);clear hk;have z1 : wx.cell? ⟨g,1,none⟩ = some (.int .i64 (p : Int)) := hL.1.cell 1 _ rfl;have z0 : wx.cell? ⟨g,0,none⟩ = some (.string s) := hL.1.cell 0 _ rfl;(obtain ⟨gg,rfl,hg0,hg1,hg2⟩ := h3;have d0 := hg2.cell 0 _ rfl;have d1 := hg2.cell 1 _ rfl;have d2 := hg2.cell 2 _ rfl;have d3 := hg2.cell 3 _ rfl;have f0 := hg2.frozen 0;have f1 := hg2.frozen 1;have f2 := hg2.frozen 2;have f3 := hg2.frozen 3;unfold setOf at k36;go_simp;refine hK undef (putS wx gg F) (fun _ => rfl) (fun u hu => ?_) ⟨gg,F,hg0,hg1,rfl⟩;obtain ⟨t,ht,hu⟩ := hu;cases ht;rw [k3] at hu;cases hu;exact ⟨gg,rfl,hg0,hg1,putS_at hg2 F⟩))) ?_ rfl (RgX.keep_r (fun _ _ _ _ h hb => by obtain ⟨gg,h1,h2,h3,h4⟩ := h;exact ⟨gg,h1,h2,h3,h4.below hb⟩) (fun _ _ => ⟨fun h _ _ _ => absurd rfl h,trivial⟩)) (fun j h => by cases h;exact ⟨0,rfl⟩)
 refine RgX.cp 18 rfl rfl (by intro ax wx hk Kx hK;have k37 := hk.e 0 14 37 rfl rfl rfl;have hL := hk.fact 0 0 _ rfl rfl;(try dsimp only at hL);clear hk;have z1 : wx.cell? ⟨g,1,none⟩ = some (.int .i64 (p : Int)) := hL.1.cell 1 _ rfl;have z0 : wx.cell? ⟨g,0,none⟩ = some (.string s) := hL.1.cell 0 _ rfl;go_simp;exact hK _ _ (fun h => by cases h) (fun _ _ => rfl) (Below.refl _ _)) ?_
 refine RgX.build_end fun wx hj => ?_
 have hL := hj 0 _ rfl rfl
 clear hj
 iterate 15 refine RgX.fin_eq rfl ?_
 first | refine RgX.fin_eq rfl ?_ | refine RgX.fin_any rfl fun v3 h3 => ?_
 refine RgX.fin_none rfl fun s16 => ?_
 refine RgX.fin_eq rfl ?_
 refine RgX.fin_nil ?_
 simp only [List.set_cons_zero,List.set_cons_succ]
 clear h3
 obtain ⟨gg,rfl,hg0,hg1,hg2⟩ := s16 rfl v3 ⟨3,by kernel_rfl,by kernel_rfl⟩
 have HA := Lib.hid hL.1;have HR := Lib.hid hL.2.1;have HO := Lib.hid hL.2.2
 clear hL s16 HJ
 clear hg0 hg1 hg2
 go_wp2_with fail
 refine (member_any g s p o x _ HA.out HP.out HM.out).mono ?_
 rintro e9 w2 ⟨hO2,hS,v,hv,rfl,hq⟩
 have HR2 := Lib.hid (HR.out.only hO2 HG.out)
 have HO2 := Lib.hid (HO.out.tr hO2)
 have HV := Lib.hid hv
 clear hO2 hv
 cases hmf : memberF s p with
 | no cc yy =>
  rw [hmf] at hS
  obtain ⟨pb,hS⟩ := hS
  have hcc : cc ≠ 0 := by have := (memberF_in s p HP.out).1;rw [hmf] at this;have := this.1;omega
  have HX : Hid (R = .no cc yy) := Lib.hid (by rw [HR0X.out,hmf];rfl)
  have HS := Lib.hid hS;have HCC := Lib.hid hcc
  clear hS hq hcc hmf
  go_wp2_with fail
  refine (peek_bad g s pb o cc yy _ HS.out HCC.out).mono ?_
  rintro e9 w3 ⟨rfl,hb⟩
  have HS3 := Lib.hid (HS.out.below hb);have HR3 := Lib.hid (HR2.out.below hb);have HO3 := Lib.hid (HO2.out.tb hb)
  clear hb
  go_wp2_with fail
  refine (rangeN v v _ HV.out HV.out).mono ?_
  rintro e9 w4 ⟨rfl,hb⟩
  have HS4 := Lib.hid (HS3.out.below hb);have HR4 := Lib.hid (HR3.out.below hb);have HO4 := Lib.hid (HO3.out.tb hb)
  clear hb
  have d0 := (HR4.out).cell 0 _ rfl;have d1 := (HR4.out).cell 1 _ rfl;have d2 := (HR4.out).cell 2 _ rfl;have d3 := (HR4.out).cell 3 _ rfl
  have f0 := (HR4.out).frozen 0;have f1 := (HR4.out).frozen 1;have f2 := (HR4.out).frozen 2;have f3 := (HR4.out).frozen 3
  unfold setOf
  go_wp2_with fail
  refine bodyPost_ret (v := setOf (spanF v (v + 1))) (by simp [results,Tryz.results128,go_sem,d0,d1,d2,d3];try rfl) rfl ⟨_,rfl,?_,?_,fun a q h => by rw [HX.out] at h;cases h⟩
  ·rw [HX.out];exact ⟨pb,putS_far HS4.out HG2.out _⟩
  ·exact HO4.out.pS _ _ (.inr HZ.out)
 | ok lo q =>
  rw [hmf] at hS hq
  obtain rfl := hq lo q rfl
  have hq0 : q ≤ s.size := by have := (memberF_in s p HP.out).1;rw [hmf] at this;exact this.2
  have HS := Lib.hid hS;have HQ := Lib.hid hq0
  clear hS hq
  have HPK := Lib.hid (peek_any g s q o x _ HS.out)
  have HX9 : Hid (R = itemE s (.ok v q)) := Lib.hid (by rw [HR0X.out,hmf])
  clear hmf
  have hie : ∀ c,ch s q = c → itemE s (.ok v q) = if c = 45 then (match memberF s (q + 1) with | .no c x => .no c x | .ok hi r => if hi < v then .no 2 (r - 1) else .ok (spanF v (hi + 1)) r) else .ok (spanF v (v + 1)) q := fun c hc => by rw [itemE,hc];rfl
  have hgeq : 0 ≤ ch s q → q < s.size := ch_ge
  generalize ch s q = c at *
  have hie := hie c rfl
  by_cases h45 : c = 45
  ·subst h45
   have HX0 : Hid (R = (match memberF s (q + 1) with | .no c x => .no c x | .ok hi r => if hi < v then .no 2 (r - 1) else .ok (spanF v (hi + 1)) r)) := Lib.hid (by rw [HX9.out,hie,if_pos rfl])
   have hq1 : q + 1 ≤ s.size := hgeq (by decide)
   have HQ1 := Lib.hid hq1
   have hq1' : (q : Int) < 1000 := by have := HM.out;omega
   obtain ⟨qi,hqi⟩ : ∃ qi : Int,qi = (q : Int) := ⟨_,rfl⟩
   have HS := HS
   rw [← hqi] at hq1'
   have hS : AtG w2 g 114 (rdr s qi o 0 x) := by rw [hqi];exact HS.out
   have hqi0 : 0 ≤ qi := by omega
   clear HS
   have HS := Lib.hid hS;have HQI := Lib.hid hqi;clear hS hq1 hie hgeq hqi
   go_wp2_with fail
   refine (HPK.out).mono ?_
   rintro e9 w3 ⟨rfl,hb⟩
   have HS3 := Lib.hid (HS.out.below hb);have HR3 := Lib.hid (HR2.out.below hb);have HO3 := Lib.hid (HO2.out.tb hb)
   clear hb
   have z1 : w3.cell? ⟨g,1,none⟩ = some (.int .i64 qi) := HS3.out.cell 1 _ rfl
   have f1 := HS3.out.frozen 1
   go_wp2_with fail
   have hat : AtG (w3.setCell ⟨g,1,none⟩ (.int .i64 (qi + 1))) g 114 (rdr s ((q + 1 : Nat) : Int) o 0 x) := by
    rw [show ((q + 1 : Nat) : Int) = qi + 1 from by have := HQI.out;omega];exact HS3.out.set 1 _
   have HR4 := Lib.hid (HR3.out.far (p := ⟨g,1,none⟩) HG.out (.int .i64 (qi + 1)))
   have HO4 := Lib.hid (HO3.out.st g 1 (.int .i64 (qi + 1)) (.inl rfl))
   refine (member_any g s (q + 1) o x _ hat HQ1.out HM.out).mono ?_
   rintro e9 w5 ⟨hO5,hS5,v5,hv5,rfl,hq5⟩
   have HR5 := Lib.hid (HR4.out.only hO5 HG.out)
   have HO5 := Lib.hid (HO4.out.tr hO5)
   have HV5 := Lib.hid hv5
   clear hat HR4 HO4 hO5 hv5 HR3 HO3 HS3 z1 f1
   have hvI : (v : Int) < 256 := by have := HV.out;omega
   have hv5I : (v5 : Int) < 256 := by have := HV5.out;omega
   cases hmf : memberF s (q + 1) with
   | no cc yy =>
    rw [hmf] at hS5
    obtain ⟨pb,hS5⟩ := hS5
    have hcc : cc ≠ 0 := by have := (memberF_in s (q + 1) HQ1.out).1;rw [hmf] at this;have := this.1;omega
    have HX : Hid (R = .no cc yy) := Lib.hid (by rw [HX0.out,hmf])
    have HS5 := Lib.hid hS5;have HCC := Lib.hid hcc
    have z1 : w5.cell? ⟨g,1,none⟩ = some (.int .i64 pb) := HS5.out.cell 1 _ rfl
    clear hS5 hq5 hcc hmf
    by_cases hlt : (v5 : Int) < (v : Int)
    ·go_wp2_with fail
     refine (fail_no g s pb o cc yy _ 2 _ HS5.out HCC.out).mono ?_
     rintro e9 w9 ⟨rfl,hw9⟩;subst hw9
     go_wp2_with fail
     refine (rangeN v v5 _ HV.out HV5.out).mono ?_
     rintro e9 w4 ⟨rfl,hb⟩
     have HS4 := Lib.hid (HS5.out.below hb);have HR4 := Lib.hid (HR5.out.below hb);have HO4 := Lib.hid (HO5.out.tb hb)
     clear hb z1
     have d0 := (HR4.out).cell 0 _ rfl;have d1 := (HR4.out).cell 1 _ rfl;have d2 := (HR4.out).cell 2 _ rfl;have d3 := (HR4.out).cell 3 _ rfl
     have f0 := (HR4.out).frozen 0;have f1 := (HR4.out).frozen 1;have f2 := (HR4.out).frozen 2;have f3 := (HR4.out).frozen 3
     unfold setOf
     go_wp2_with fail
     refine bodyPost_ret (v := setOf (spanF v (v5 + 1))) (by simp [results,Tryz.results128,go_sem,d0,d1,d2,d3];try rfl) rfl ⟨_,rfl,?_,?_,fun a q h => by rw [HX.out] at h;cases h⟩
     ·rw [HX.out];exact ⟨pb,putS_far HS4.out HG2.out _⟩
     ·exact HO4.out.pS _ _ (.inr HZ.out)
    ·go_wp2_with fail
     refine (rangeN v v5 _ HV.out HV5.out).mono ?_
     rintro e9 w4 ⟨rfl,hb⟩
     have HS4 := Lib.hid (HS5.out.below hb);have HR4 := Lib.hid (HR5.out.below hb);have HO4 := Lib.hid (HO5.out.tb hb)
     clear hb z1
     have d0 := (HR4.out).cell 0 _ rfl;have d1 := (HR4.out).cell 1 _ rfl;have d2 := (HR4.out).cell 2 _ rfl;have d3 := (HR4.out).cell 3 _ rfl
     have f0 := (HR4.out).frozen 0;have f1 := (HR4.out).frozen 1;have f2 := (HR4.out).frozen 2;have f3 := (HR4.out).frozen 3
     unfold setOf
     go_wp2_with fail
     refine bodyPost_ret (v := setOf (spanF v (v5 + 1))) (by simp [results,Tryz.results128,go_sem,d0,d1,d2,d3];try rfl) rfl ⟨_,rfl,?_,?_,fun a q h => by rw [HX.out] at h;cases h⟩
     ·rw [HX.out];exact ⟨pb,putS_far HS4.out HG2.out _⟩
     ·exact HO4.out.pS _ _ (.inr HZ.out)
   | ok hi r =>
    rw [hmf] at hS5 hq5
    obtain rfl := hq5 hi r rfl
    have hr0 : q + 2 ≤ r ∧ r ≤ s.size := by have := (memberF_in s (q + 1) HQ1.out).1;rw [hmf] at this;exact this
    have HX1 : Hid (R = (if v5 < v then .no 2 (r - 1) else .ok (spanF v (v5 + 1)) r)) := Lib.hid (by rw [HX0.out,hmf])
    obtain ⟨ri,hri⟩ : ∃ ri : Int,ri = (r : Int) := ⟨_,rfl⟩
    have hS5 : AtG w5 g 114 (rdr s ri o 0 x) := by rw [hri];exact hS5
    have HS5 := Lib.hid hS5
    have z1 : w5.cell? ⟨g,1,none⟩ = some (.int .i64 ri) := HS5.out.cell 1 _ rfl
    have hr1 : ri - 1 = ((r - 1 : Nat) : Int) := by omega
    have HR1 := Lib.hid hr1
    have hr2 : 0 ≤ ri - 1 := by omega
    have hr3 : ri < 10000 := by have := HM.out;omega
    have HRI := Lib.hid hri
    clear hS5 hq5 hmf hri hr0
    by_cases hlt : (v5 : Int) < (v : Int)
    ·have HX : Hid (R = .no 2 (r - 1)) := Lib.hid (by rw [HX1.out,if_pos (by omega)])
     go_wp2_with fail
     refine (failO g s ri o x _ 2 _ HS5.out).mono ?_
     rintro e9 w6 ⟨rfl,hA6,hO6⟩
     have HS6 := Lib.hid hA6;have HR6 := Lib.hid (HR5.out.only hO6 HG.out);have HO6 := Lib.hid (HO5.out.tr hO6)
     clear hA6 hO6 z1
     go_wp2_with fail
     refine (rangeN v v5 _ HV.out HV5.out).mono ?_
     rintro e9 w4 ⟨rfl,hb⟩
     have HS4 := Lib.hid (HS6.out.below hb);have HR4 := Lib.hid (HR6.out.below hb);have HO4 := Lib.hid (HO6.out.tb hb)
     clear hb
     have d0 := (HR4.out).cell 0 _ rfl;have d1 := (HR4.out).cell 1 _ rfl;have d2 := (HR4.out).cell 2 _ rfl;have d3 := (HR4.out).cell 3 _ rfl
     have f0 := (HR4.out).frozen 0;have f1 := (HR4.out).frozen 1;have f2 := (HR4.out).frozen 2;have f3 := (HR4.out).frozen 3
     unfold setOf
     go_wp2_with fail
     refine bodyPost_ret (v := setOf (spanF v (v5 + 1))) (by simp [results,Tryz.results128,go_sem,d0,d1,d2,d3];try rfl) rfl ⟨_,rfl,?_,?_,fun a q h => by rw [HX.out] at h;cases h⟩
     ·rw [HX.out];exact ⟨ri,putS_far (by first | exact HS4.out | (rw [← HR1.out];exact HS4.out)) HG2.out _⟩
     ·exact HO4.out.pS _ _ (.inr HZ.out)
    ·have HX : Hid (R = .ok (spanF v (v5 + 1)) r) := Lib.hid (by rw [HX1.out,if_neg (by omega)])
     go_wp2_with fail
     refine (rangeN v v5 _ HV.out HV5.out).mono ?_
     rintro e9 w4 ⟨rfl,hb⟩
     have HS4 := Lib.hid (HS5.out.below hb);have HR4 := Lib.hid (HR5.out.below hb);have HO4 := Lib.hid (HO5.out.tb hb)
     clear hb z1
     have d0 := (HR4.out).cell 0 _ rfl;have d1 := (HR4.out).cell 1 _ rfl;have d2 := (HR4.out).cell 2 _ rfl;have d3 := (HR4.out).cell 3 _ rfl
     have f0 := (HR4.out).frozen 0;have f1 := (HR4.out).frozen 1;have f2 := (HR4.out).frozen 2;have f3 := (HR4.out).frozen 3
     unfold setOf
     go_wp2_with fail
     refine bodyPost_ret (v := setOf (spanF v (v5 + 1))) (by simp [results,Tryz.results128,go_sem,d0,d1,d2,d3];try rfl) rfl ⟨_,rfl,?_,?_,fun a q h => by rw [HX.out] at h;injection h⟩
     ·rw [HX.out];show AtG _ g _ (rdr s (r : Int) o 0 x);rw [← HRI.out];exact putS_far HS4.out HG2.out _
     ·exact HO4.out.pS _ _ (.inr HZ.out)
  ·have HX : Hid (R = .ok (spanF v (v + 1)) q) := Lib.hid (by rw [HX9.out,hie,if_neg h45])
   have e45 : (c == 45) = false := by rw [beq_eq_false_iff_ne];exact h45
   clear h45 hie hgeq
   go_wp2_with fail
   refine (HPK.out).mono ?_
   rintro e9 w3 ⟨rfl,hb⟩
   have HS3 := Lib.hid (HS.out.below hb);have HR3 := Lib.hid (HR2.out.below hb);have HO3 := Lib.hid (HO2.out.tb hb)
   clear hb
   go_wp2_with fail
   refine (rangeN v v _ HV.out HV.out).mono ?_
   rintro e9 w4 ⟨rfl,hb⟩
   have HS4 := Lib.hid (HS3.out.below hb);have HR4 := Lib.hid (HR3.out.below hb);have HO4 := Lib.hid (HO3.out.tb hb)
   clear hb
   have d0 := (HR4.out).cell 0 _ rfl;have d1 := (HR4.out).cell 1 _ rfl;have d2 := (HR4.out).cell 2 _ rfl;have d3 := (HR4.out).cell 3 _ rfl
   have f0 := (HR4.out).frozen 0;have f1 := (HR4.out).frozen 1;have f2 := (HR4.out).frozen 2;have f3 := (HR4.out).frozen 3
   unfold setOf
   go_wp2_with fail
   refine bodyPost_ret (v := setOf (spanF v (v + 1))) (by simp [results,Tryz.results128,go_sem,d0,d1,d2,d3];try rfl) rfl ⟨_,rfl,?_,?_,fun a q h => by rw [HX.out] at h;injection h⟩
   ·rw [HX.out];exact putS_far HS4.out HG2.out _
   ·exact HO4.out.pS _ _ (.inr HZ.out)
set_option maxRecDepth 100000 in
set_option maxHeartbeats 1600000 in
theorem item_last (g : Nat) (s : ByteArray) (p : Nat) (o x : Int) (w : World) (h : AtG w g 114 (rdr s p o 0 x)) (hp : p ≤ s.size) (hm : s.size ≤ 1000) (h92 : ch s p = 92) (hn : ¬ p + 1 < s.size) :
  Calls Tryz.prog 128 #[.pointer (some ⟨g,0,none⟩)] w fun e w' => ∃ F : Nat → Bool,e = .returned (setOf F) ∧ StR s g o x (itemF s p) w' ∧ Only (fun k => k = g) w w' ∧ ∀ f q,itemF s p = .ok f q → F = f := by
 have HP := Lib.hid hp;have HM := Lib.hid hm
 have HR0 := Lib.hid (AtG.new w 38 (setC 0 0 0 0))
 have HA0 := Lib.hid (h.alloc (.cells (setC 0 0 0 0) 38))
 have HO0 := Lib.hid ((Only.refl (S := fun k => k = g) w).al (.cells (setC 0 0 0 0) 38))
 have HG : Hid (w.heap.size ≠ g) := Lib.hid (by have := h.lt;omega)
 have HG2 : Hid (g ≠ w.heap.size) := Lib.hid (by have := h.lt;omega)
 have HZ : Hid (w.heap.size ≤ w.heap.size) := Lib.hid (Nat.le_refl _)
 have HPK := Lib.hid (fun w h => peek_any g s p o x w h)
 have hif : ∀ c,ch s p = c → itemF s p = if c = 92 ∧ p + 1 < s.size then (match wideF (ch s (p + 1)) with | some f => .ok f (p + 2) | none => itemE s (memberF s p)) else itemE s (memberF s p) := fun c hc => by unfold itemF;rw [hc];rfl
 generalize ch s p = c at *
 rw [hif c rfl]
 clear hif h hp hm
 have hpI : (p : Int) < 1001 := by have := HP.out;have := HM.out;omega
 subst h92
 rw [if_neg (fun h => hn h.2)]
 have hnI : ¬ (p : Int) + 1 < (s.size : Int) := by omega
 have hwp : IntKind.i64.wrap ((p : Int) + 1) = (p : Int) + 1 := by rw [IntKind.wrap_i64];omega
 obtain ⟨R,hR⟩ : ∃ R,R = itemE s (memberF s p) := ⟨_,rfl⟩
 rw [← hR]
 have HR0X := Lib.hid hR
 clear hR hn
 go_enter Tryz.func128,Tryz.ntmps128
 go_upto_region 1 with (fail)
 have HPRE : Hid (∀ wx : World,(fun w' => AtG w' g 114 (rdr s p o 0 x) ∧ AtG w' w.heap.size 38 (setC 0 0 0 0) ∧ Only (fun k => k = g) w w') wx → wx.cell? ⟨g,1,none⟩ = some (.int .i64 (p : Int)) ∧ wx.cell? ⟨g,0,none⟩ = some (.string s)) := Lib.hid (by intro wx hj;have z1 : wx.cell? ⟨g,1,none⟩ = some (.int .i64 (p : Int)) := hj.1.cell 1 _ rfl;have z0 : wx.cell? ⟨g,0,none⟩ = some (.string s) := hj.1.cell 0 _ rfl;exact ⟨z1,z0⟩)
 refine Rg.wp_region_each (by kernel_rfl) (fun w' => AtG w' g 114 (rdr s p o 0 x) ∧ AtG w' w.heap.size 38 (setC 0 0 0 0) ∧ Only (fun k => k = g) w w') (fun w1 w2 h hb => ⟨h.1.below hb,h.2.1.below hb,h.2.2.tb hb⟩) (by kernel_rfl) (by kernel_rfl) (⟨HA0.out,HR0.out,HO0.out⟩) ?_
 show Rg.Build _ _ _ _ _ 0 [_,_,_,_,_,_,_,_,_,_,_,_,_,_,_,_] []
 refine Rg.cpe 1 rfl rfl (by intro ax wx hk Kx hK;have k0 := hk.base 0 _ rfl rfl;have hj := hk.j;clear hk;obtain ⟨z1,z0⟩ := HPRE.out _ hj;go_simp;exact Rg.ok hK) ?_
 refine Rg.cpe 2 rfl rfl (by intro ax wx hk Kx hK;have k7 := hk.e 0 7 rfl rfl rfl;have hj := hk.j;clear hk;obtain ⟨z1,z0⟩ := HPRE.out _ hj;go_simp;refine (HPK.out _ hj.1).mono ?_;rintro e w' ⟨rfl,hb⟩;refine hK _ _ ?_ hb;apply Rg.mk) ?_
 refine Rg.cp 3 (Rg.eq (.bool true)) rfl rfl (by intro ax wx hk Kx hK;have k8 := hk.e 1 8 rfl rfl rfl;have hj := hk.j;clear hk;obtain ⟨z1,z0⟩ := HPRE.out _ hj;(go_simp;refine hK _ _ ?_ (Below.refl _ _);simp [Rg.eq])) ?_
 refine Rg.cpe 4 rfl rfl (by intro ax wx hk Kx hK;have k9 := hk.e 2 9 rfl rfl rfl;have hj := hk.j;clear hk;obtain ⟨z1,z0⟩ := HPRE.out _ hj;go_simp;exact Rg.ok hK) ?_
 refine Rg.cye 5 3 10 true rfl rfl rfl rfl rfl (by intro ax wx hk Kx hK;have k0 := hk.base 0 _ rfl rfl;have hj := hk.j;clear hk;obtain ⟨z1,z0⟩ := HPRE.out _ hj;go_simp;exact Rg.ok hK) ?_
 refine Rg.cye 6 3 10 true rfl rfl rfl rfl rfl (by intro ax wx hk Kx hK;have k11 := hk.e 4 11 rfl rfl rfl;clear hk;go_simp;exact Rg.ok hK) ?_
 refine Rg.cye 7 3 10 true rfl rfl rfl rfl rfl (by intro ax wx hk Kx hK;have k12 := hk.e 5 12 rfl rfl rfl;clear hk;go_simp;exact Rg.ok hK) ?_
 refine Rg.cye 8 3 10 true rfl rfl rfl rfl rfl (by intro ax wx hk Kx hK;have k13 := hk.e 6 13 rfl rfl rfl;have hj := hk.j;clear hk;obtain ⟨z1,z0⟩ := HPRE.out _ hj;go_simp;exact Rg.ok hK) ?_
 refine Rg.cy 9 (Rg.eq (.int .i64 ((p : Int) + 1))) 3 10 true rfl rfl rfl rfl rfl (by intro ax wx hk Kx hK;have k14 := hk.e 7 14 rfl rfl rfl;have hj := hk.j;clear hk;obtain ⟨z1,z0⟩ := HPRE.out _ hj;(go_simp;refine hK _ _ ?_ (Below.refl _ _);simp [Rg.eq,hwp])) ?_
 refine Rg.cye 10 3 10 true rfl rfl rfl rfl rfl (by intro ax wx hk Kx hK;have k0 := hk.base 0 _ rfl rfl;have hj := hk.j;clear hk;obtain ⟨z1,z0⟩ := HPRE.out _ hj;go_simp;exact Rg.ok hK) ?_
 refine Rg.cye 11 3 10 true rfl rfl rfl rfl rfl (by intro ax wx hk Kx hK;have k16 := hk.e 9 16 rfl rfl rfl;clear hk;go_simp;exact Rg.ok hK) ?_
 refine Rg.cye 12 3 10 true rfl rfl rfl rfl rfl (by intro ax wx hk Kx hK;have k17 := hk.e 10 17 rfl rfl rfl;clear hk;go_simp;exact Rg.ok hK) ?_
 refine Rg.cye 13 3 10 true rfl rfl rfl rfl rfl (by intro ax wx hk Kx hK;have k18 := hk.e 11 18 rfl rfl rfl;have hj := hk.j;clear hk;obtain ⟨z1,z0⟩ := HPRE.out _ hj;go_simp;exact Rg.ok hK) ?_
 refine Rg.cye 14 3 10 true rfl rfl rfl rfl rfl (by intro ax wx hk Kx hK;have k19 := hk.e 12 19 rfl rfl rfl;have hj := hk.j;clear hk;obtain ⟨z1,z0⟩ := HPRE.out _ hj;go_simp;exact Rg.ok hK) ?_
 refine Rg.cy 15 (Rg.eq (.bool false)) 3 10 true rfl rfl rfl rfl rfl (by intro ax wx hk Kx hK;have k15 := hk.e 8 15 rfl rfl rfl;have k20 := hk.e 13 20 rfl rfl rfl;have hj := hk.j;clear hk;obtain ⟨z1,z0⟩ := HPRE.out _ hj;(go_simp;refine hK _ _ ?_ (Below.refl _ _);simp [Rg.eq,hnI];try omega)) ?_
 refine Rg.cpe 16 rfl rfl (by intro ax wx hk Kx hK;have k10 := hk.e 3 10 rfl rfl rfl;have k21 := hk.e 14 21 rfl rfl rfl;clear hk;go_simp;exact Rg.ok hK) ?_
 refine Rg.build_end fun wx hj => ?_
 iterate 16 refine Rg.fin_eq rfl ?_
 refine Rg.fin_nil ?_
 simp only [List.set_cons_zero,List.set_cons_succ]
 have HA := Lib.hid hj.1;have HR := Lib.hid hj.2.1;have HO := Lib.hid hj.2.2
 clear hj
 go_wp2_with fail
 refine (member_any g s p o x _ HA.out HP.out HM.out).mono ?_
 rintro e9 w2 ⟨hO2,hS,v,hv,rfl,hq⟩
 have HR2 := Lib.hid (HR.out.only hO2 HG.out)
 have HO2 := Lib.hid (HO.out.tr hO2)
 have HV := Lib.hid hv
 clear hO2 hv
 cases hmf : memberF s p with
 | no cc yy =>
  rw [hmf] at hS
  obtain ⟨pb,hS⟩ := hS
  have hcc : cc ≠ 0 := by have := (memberF_in s p HP.out).1;rw [hmf] at this;have := this.1;omega
  have HX : Hid (R = .no cc yy) := Lib.hid (by rw [HR0X.out,hmf];rfl)
  have HS := Lib.hid hS;have HCC := Lib.hid hcc
  clear hS hq hcc hmf
  go_wp2_with fail
  refine (peek_bad g s pb o cc yy _ HS.out HCC.out).mono ?_
  rintro e9 w3 ⟨rfl,hb⟩
  have HS3 := Lib.hid (HS.out.below hb);have HR3 := Lib.hid (HR2.out.below hb);have HO3 := Lib.hid (HO2.out.tb hb)
  clear hb
  go_wp2_with fail
  refine (rangeN v v _ HV.out HV.out).mono ?_
  rintro e9 w4 ⟨rfl,hb⟩
  have HS4 := Lib.hid (HS3.out.below hb);have HR4 := Lib.hid (HR3.out.below hb);have HO4 := Lib.hid (HO3.out.tb hb)
  clear hb
  have d0 := (HR4.out).cell 0 _ rfl;have d1 := (HR4.out).cell 1 _ rfl;have d2 := (HR4.out).cell 2 _ rfl;have d3 := (HR4.out).cell 3 _ rfl
  have f0 := (HR4.out).frozen 0;have f1 := (HR4.out).frozen 1;have f2 := (HR4.out).frozen 2;have f3 := (HR4.out).frozen 3
  unfold setOf
  go_wp2_with fail
  refine bodyPost_ret (v := setOf (spanF v (v + 1))) (by simp [results,Tryz.results128,go_sem,d0,d1,d2,d3];try rfl) rfl ⟨_,rfl,?_,?_,fun a q h => by rw [HX.out] at h;cases h⟩
  ·rw [HX.out];exact ⟨pb,putS_far HS4.out HG2.out _⟩
  ·exact HO4.out.pS _ _ (.inr HZ.out)
 | ok lo q =>
  rw [hmf] at hS hq
  obtain rfl := hq lo q rfl
  have hq0 : q ≤ s.size := by have := (memberF_in s p HP.out).1;rw [hmf] at this;exact this.2
  have HS := Lib.hid hS;have HQ := Lib.hid hq0
  clear hS hq
  have HPK := Lib.hid (peek_any g s q o x _ HS.out)
  have HX9 : Hid (R = itemE s (.ok v q)) := Lib.hid (by rw [HR0X.out,hmf])
  clear hmf
  have hie : ∀ c,ch s q = c → itemE s (.ok v q) = if c = 45 then (match memberF s (q + 1) with | .no c x => .no c x | .ok hi r => if hi < v then .no 2 (r - 1) else .ok (spanF v (hi + 1)) r) else .ok (spanF v (v + 1)) q := fun c hc => by rw [itemE,hc];rfl
  have hgeq : 0 ≤ ch s q → q < s.size := ch_ge
  generalize ch s q = c at *
  have hie := hie c rfl
  by_cases h45 : c = 45
  ·subst h45
   have HX0 : Hid (R = (match memberF s (q + 1) with | .no c x => .no c x | .ok hi r => if hi < v then .no 2 (r - 1) else .ok (spanF v (hi + 1)) r)) := Lib.hid (by rw [HX9.out,hie,if_pos rfl])
   have hq1 : q + 1 ≤ s.size := hgeq (by decide)
   have HQ1 := Lib.hid hq1
   have hq1' : (q : Int) < 1000 := by have := HM.out;omega
   obtain ⟨qi,hqi⟩ : ∃ qi : Int,qi = (q : Int) := ⟨_,rfl⟩
   have HS := HS
   rw [← hqi] at hq1'
   have hS : AtG w2 g 114 (rdr s qi o 0 x) := by rw [hqi];exact HS.out
   have hqi0 : 0 ≤ qi := by omega
   clear HS
   have HS := Lib.hid hS;have HQI := Lib.hid hqi;clear hS hq1 hie hgeq hqi
   go_wp2_with fail
   refine (HPK.out).mono ?_
   rintro e9 w3 ⟨rfl,hb⟩
   have HS3 := Lib.hid (HS.out.below hb);have HR3 := Lib.hid (HR2.out.below hb);have HO3 := Lib.hid (HO2.out.tb hb)
   clear hb
   have z1 : w3.cell? ⟨g,1,none⟩ = some (.int .i64 qi) := HS3.out.cell 1 _ rfl
   have f1 := HS3.out.frozen 1
   go_wp2_with fail
   have hat : AtG (w3.setCell ⟨g,1,none⟩ (.int .i64 (qi + 1))) g 114 (rdr s ((q + 1 : Nat) : Int) o 0 x) := by
    rw [show ((q + 1 : Nat) : Int) = qi + 1 from by have := HQI.out;omega];exact HS3.out.set 1 _
   have HR4 := Lib.hid (HR3.out.far (p := ⟨g,1,none⟩) HG.out (.int .i64 (qi + 1)))
   have HO4 := Lib.hid (HO3.out.st g 1 (.int .i64 (qi + 1)) (.inl rfl))
   refine (member_any g s (q + 1) o x _ hat HQ1.out HM.out).mono ?_
   rintro e9 w5 ⟨hO5,hS5,v5,hv5,rfl,hq5⟩
   have HR5 := Lib.hid (HR4.out.only hO5 HG.out)
   have HO5 := Lib.hid (HO4.out.tr hO5)
   have HV5 := Lib.hid hv5
   clear hat HR4 HO4 hO5 hv5 HR3 HO3 HS3 z1 f1
   have hvI : (v : Int) < 256 := by have := HV.out;omega
   have hv5I : (v5 : Int) < 256 := by have := HV5.out;omega
   cases hmf : memberF s (q + 1) with
   | no cc yy =>
    rw [hmf] at hS5
    obtain ⟨pb,hS5⟩ := hS5
    have hcc : cc ≠ 0 := by have := (memberF_in s (q + 1) HQ1.out).1;rw [hmf] at this;have := this.1;omega
    have HX : Hid (R = .no cc yy) := Lib.hid (by rw [HX0.out,hmf])
    have HS5 := Lib.hid hS5;have HCC := Lib.hid hcc
    have z1 : w5.cell? ⟨g,1,none⟩ = some (.int .i64 pb) := HS5.out.cell 1 _ rfl
    clear hS5 hq5 hcc hmf
    by_cases hlt : (v5 : Int) < (v : Int)
    ·go_wp2_with fail
     refine (fail_no g s pb o cc yy _ 2 _ HS5.out HCC.out).mono ?_
     rintro e9 w9 ⟨rfl,hw9⟩;subst hw9
     go_wp2_with fail
     refine (rangeN v v5 _ HV.out HV5.out).mono ?_
     rintro e9 w4 ⟨rfl,hb⟩
     have HS4 := Lib.hid (HS5.out.below hb);have HR4 := Lib.hid (HR5.out.below hb);have HO4 := Lib.hid (HO5.out.tb hb)
     clear hb z1
     have d0 := (HR4.out).cell 0 _ rfl;have d1 := (HR4.out).cell 1 _ rfl;have d2 := (HR4.out).cell 2 _ rfl;have d3 := (HR4.out).cell 3 _ rfl
     have f0 := (HR4.out).frozen 0;have f1 := (HR4.out).frozen 1;have f2 := (HR4.out).frozen 2;have f3 := (HR4.out).frozen 3
     unfold setOf
     go_wp2_with fail
     refine bodyPost_ret (v := setOf (spanF v (v5 + 1))) (by simp [results,Tryz.results128,go_sem,d0,d1,d2,d3];try rfl) rfl ⟨_,rfl,?_,?_,fun a q h => by rw [HX.out] at h;cases h⟩
     ·rw [HX.out];exact ⟨pb,putS_far HS4.out HG2.out _⟩
     ·exact HO4.out.pS _ _ (.inr HZ.out)
    ·go_wp2_with fail
     refine (rangeN v v5 _ HV.out HV5.out).mono ?_
     rintro e9 w4 ⟨rfl,hb⟩
     have HS4 := Lib.hid (HS5.out.below hb);have HR4 := Lib.hid (HR5.out.below hb);have HO4 := Lib.hid (HO5.out.tb hb)
     clear hb z1
     have d0 := (HR4.out).cell 0 _ rfl;have d1 := (HR4.out).cell 1 _ rfl;have d2 := (HR4.out).cell 2 _ rfl;have d3 := (HR4.out).cell 3 _ rfl
     have f0 := (HR4.out).frozen 0;have f1 := (HR4.out).frozen 1;have f2 := (HR4.out).frozen 2;have f3 := (HR4.out).frozen 3
     unfold setOf
     go_wp2_with fail
     refine bodyPost_ret (v := setOf (spanF v (v5 + 1))) (by simp [results,Tryz.results128,go_sem,d0,d1,d2,d3];try rfl) rfl ⟨_,rfl,?_,?_,fun a q h => by rw [HX.out] at h;cases h⟩
     ·rw [HX.out];exact ⟨pb,putS_far HS4.out HG2.out _⟩
     ·exact HO4.out.pS _ _ (.inr HZ.out)
   | ok hi r =>
    rw [hmf] at hS5 hq5
    obtain rfl := hq5 hi r rfl
    have hr0 : q + 2 ≤ r ∧ r ≤ s.size := by have := (memberF_in s (q + 1) HQ1.out).1;rw [hmf] at this;exact this
    have HX1 : Hid (R = (if v5 < v then .no 2 (r - 1) else .ok (spanF v (v5 + 1)) r)) := Lib.hid (by rw [HX0.out,hmf])
    obtain ⟨ri,hri⟩ : ∃ ri : Int,ri = (r : Int) := ⟨_,rfl⟩
    have hS5 : AtG w5 g 114 (rdr s ri o 0 x) := by rw [hri];exact hS5
    have HS5 := Lib.hid hS5
    have z1 : w5.cell? ⟨g,1,none⟩ = some (.int .i64 ri) := HS5.out.cell 1 _ rfl
    have hr1 : ri - 1 = ((r - 1 : Nat) : Int) := by omega
    have HR1 := Lib.hid hr1
    have hr2 : 0 ≤ ri - 1 := by omega
    have hr3 : ri < 10000 := by have := HM.out;omega
    have HRI := Lib.hid hri
    clear hS5 hq5 hmf hri hr0
    by_cases hlt : (v5 : Int) < (v : Int)
    ·have HX : Hid (R = .no 2 (r - 1)) := Lib.hid (by rw [HX1.out,if_pos (by omega)])
     go_wp2_with fail
     refine (failO g s ri o x _ 2 _ HS5.out).mono ?_
     rintro e9 w6 ⟨rfl,hA6,hO6⟩
     have HS6 := Lib.hid hA6;have HR6 := Lib.hid (HR5.out.only hO6 HG.out);have HO6 := Lib.hid (HO5.out.tr hO6)
     clear hA6 hO6 z1
     go_wp2_with fail
     refine (rangeN v v5 _ HV.out HV5.out).mono ?_
     rintro e9 w4 ⟨rfl,hb⟩
     have HS4 := Lib.hid (HS6.out.below hb);have HR4 := Lib.hid (HR6.out.below hb);have HO4 := Lib.hid (HO6.out.tb hb)
     clear hb
     have d0 := (HR4.out).cell 0 _ rfl;have d1 := (HR4.out).cell 1 _ rfl;have d2 := (HR4.out).cell 2 _ rfl;have d3 := (HR4.out).cell 3 _ rfl
     have f0 := (HR4.out).frozen 0;have f1 := (HR4.out).frozen 1;have f2 := (HR4.out).frozen 2;have f3 := (HR4.out).frozen 3
     unfold setOf
     go_wp2_with fail
     refine bodyPost_ret (v := setOf (spanF v (v5 + 1))) (by simp [results,Tryz.results128,go_sem,d0,d1,d2,d3];try rfl) rfl ⟨_,rfl,?_,?_,fun a q h => by rw [HX.out] at h;cases h⟩
     ·rw [HX.out];exact ⟨ri,putS_far (by first | exact HS4.out | (rw [← HR1.out];exact HS4.out)) HG2.out _⟩
     ·exact HO4.out.pS _ _ (.inr HZ.out)
    ·have HX : Hid (R = .ok (spanF v (v5 + 1)) r) := Lib.hid (by rw [HX1.out,if_neg (by omega)])
     go_wp2_with fail
     refine (rangeN v v5 _ HV.out HV5.out).mono ?_
     rintro e9 w4 ⟨rfl,hb⟩
     have HS4 := Lib.hid (HS5.out.below hb);have HR4 := Lib.hid (HR5.out.below hb);have HO4 := Lib.hid (HO5.out.tb hb)
     clear hb z1
     have d0 := (HR4.out).cell 0 _ rfl;have d1 := (HR4.out).cell 1 _ rfl;have d2 := (HR4.out).cell 2 _ rfl;have d3 := (HR4.out).cell 3 _ rfl
     have f0 := (HR4.out).frozen 0;have f1 := (HR4.out).frozen 1;have f2 := (HR4.out).frozen 2;have f3 := (HR4.out).frozen 3
     unfold setOf
     go_wp2_with fail
     refine bodyPost_ret (v := setOf (spanF v (v5 + 1))) (by simp [results,Tryz.results128,go_sem,d0,d1,d2,d3];try rfl) rfl ⟨_,rfl,?_,?_,fun a q h => by rw [HX.out] at h;injection h⟩
     ·rw [HX.out];show AtG _ g _ (rdr s (r : Int) o 0 x);rw [← HRI.out];exact putS_far HS4.out HG2.out _
     ·exact HO4.out.pS _ _ (.inr HZ.out)
  ·have HX : Hid (R = .ok (spanF v (v + 1)) q) := Lib.hid (by rw [HX9.out,hie,if_neg h45])
   have e45 : (c == 45) = false := by rw [beq_eq_false_iff_ne];exact h45
   clear h45 hie hgeq
   go_wp2_with fail
   refine (HPK.out).mono ?_
   rintro e9 w3 ⟨rfl,hb⟩
   have HS3 := Lib.hid (HS.out.below hb);have HR3 := Lib.hid (HR2.out.below hb);have HO3 := Lib.hid (HO2.out.tb hb)
   clear hb
   go_wp2_with fail
   refine (rangeN v v _ HV.out HV.out).mono ?_
   rintro e9 w4 ⟨rfl,hb⟩
   have HS4 := Lib.hid (HS3.out.below hb);have HR4 := Lib.hid (HR3.out.below hb);have HO4 := Lib.hid (HO3.out.tb hb)
   clear hb
   have d0 := (HR4.out).cell 0 _ rfl;have d1 := (HR4.out).cell 1 _ rfl;have d2 := (HR4.out).cell 2 _ rfl;have d3 := (HR4.out).cell 3 _ rfl
   have f0 := (HR4.out).frozen 0;have f1 := (HR4.out).frozen 1;have f2 := (HR4.out).frozen 2;have f3 := (HR4.out).frozen 3
   unfold setOf
   go_wp2_with fail
   refine bodyPost_ret (v := setOf (spanF v (v + 1))) (by simp [results,Tryz.results128,go_sem,d0,d1,d2,d3];try rfl) rfl ⟨_,rfl,?_,?_,fun a q h => by rw [HX.out] at h;injection h⟩
   ·rw [HX.out];exact putS_far HS4.out HG2.out _
   ·exact HO4.out.pS _ _ (.inr HZ.out)
set_option maxRecDepth 100000 in
set_option maxHeartbeats 1600000 in
theorem item_other (g : Nat) (s : ByteArray) (p : Nat) (o x : Int) (w : World) (h : AtG w g 114 (rdr s p o 0 x)) (hp : p ≤ s.size) (hm : s.size ≤ 1000) (h92 : ch s p ≠ 92) :
  Calls Tryz.prog 128 #[.pointer (some ⟨g,0,none⟩)] w fun e w' => ∃ F : Nat → Bool,e = .returned (setOf F) ∧ StR s g o x (itemF s p) w' ∧ Only (fun k => k = g) w w' ∧ ∀ f q,itemF s p = .ok f q → F = f := by
 have HP := Lib.hid hp;have HM := Lib.hid hm
 have HR0 := Lib.hid (AtG.new w 38 (setC 0 0 0 0))
 have HA0 := Lib.hid (h.alloc (.cells (setC 0 0 0 0) 38))
 have HO0 := Lib.hid ((Only.refl (S := fun k => k = g) w).al (.cells (setC 0 0 0 0) 38))
 have HG : Hid (w.heap.size ≠ g) := Lib.hid (by have := h.lt;omega)
 have HG2 : Hid (g ≠ w.heap.size) := Lib.hid (by have := h.lt;omega)
 have HZ : Hid (w.heap.size ≤ w.heap.size) := Lib.hid (Nat.le_refl _)
 have HPK := Lib.hid (fun w h => peek_any g s p o x w h)
 have hif : ∀ c,ch s p = c → itemF s p = if c = 92 ∧ p + 1 < s.size then (match wideF (ch s (p + 1)) with | some f => .ok f (p + 2) | none => itemE s (memberF s p)) else itemE s (memberF s p) := fun c hc => by unfold itemF;rw [hc];rfl
 generalize ch s p = c at *
 rw [hif c rfl]
 clear hif h hp hm
 have hpI : (p : Int) < 1001 := by have := HP.out;have := HM.out;omega
 rw [if_neg (fun h => h92 h.1)]
 have e92 : (c == 92) = false := by rw [beq_eq_false_iff_ne];exact h92
 obtain ⟨R,hR⟩ : ∃ R,R = itemE s (memberF s p) := ⟨_,rfl⟩
 rw [← hR]
 have HR0X := Lib.hid hR
 clear hR
 go_enter Tryz.func128,Tryz.ntmps128
 go_upto_region 1 with (fail)
 have HPRE : Hid (∀ wx : World,(fun w' => AtG w' g 114 (rdr s p o 0 x) ∧ AtG w' w.heap.size 38 (setC 0 0 0 0) ∧ Only (fun k => k = g) w w') wx → wx.cell? ⟨g,1,none⟩ = some (.int .i64 (p : Int)) ∧ wx.cell? ⟨g,0,none⟩ = some (.string s)) := Lib.hid (by intro wx hj;have z1 : wx.cell? ⟨g,1,none⟩ = some (.int .i64 (p : Int)) := hj.1.cell 1 _ rfl;have z0 : wx.cell? ⟨g,0,none⟩ = some (.string s) := hj.1.cell 0 _ rfl;exact ⟨z1,z0⟩)
 refine Rg.wp_region_each (by kernel_rfl) (fun w' => AtG w' g 114 (rdr s p o 0 x) ∧ AtG w' w.heap.size 38 (setC 0 0 0 0) ∧ Only (fun k => k = g) w w') (fun w1 w2 h hb => ⟨h.1.below hb,h.2.1.below hb,h.2.2.tb hb⟩) (by kernel_rfl) (by kernel_rfl) (⟨HA0.out,HR0.out,HO0.out⟩) ?_
 show Rg.Build _ _ _ _ _ 0 [_,_,_,_,_,_,_,_,_,_,_,_,_,_,_,_] []
 refine Rg.cpe 1 rfl rfl (by intro ax wx hk Kx hK;have k0 := hk.base 0 _ rfl rfl;have hj := hk.j;clear hk;obtain ⟨z1,z0⟩ := HPRE.out _ hj;go_simp;exact Rg.ok hK) ?_
 refine Rg.cpe 2 rfl rfl (by intro ax wx hk Kx hK;have k7 := hk.e 0 7 rfl rfl rfl;have hj := hk.j;clear hk;obtain ⟨z1,z0⟩ := HPRE.out _ hj;go_simp;refine (HPK.out _ hj.1).mono ?_;rintro e w' ⟨rfl,hb⟩;refine hK _ _ ?_ hb;apply Rg.mk) ?_
 refine Rg.cp 3 (Rg.eq (.bool false)) rfl rfl (by intro ax wx hk Kx hK;have k8 := hk.e 1 8 rfl rfl rfl;have hj := hk.j;clear hk;obtain ⟨z1,z0⟩ := HPRE.out _ hj;(go_simp;refine hK _ _ ?_ (Below.refl _ _);simp [Rg.eq,e92];try exact h92)) ?_
 refine Rg.cpe 4 rfl rfl (by intro ax wx hk Kx hK;have k9 := hk.e 2 9 rfl rfl rfl;have hj := hk.j;clear hk;obtain ⟨z1,z0⟩ := HPRE.out _ hj;go_simp;exact Rg.ok hK) ?_
 refine Rg.cn 5 3 10 true rfl rfl rfl rfl rfl ?_
 refine Rg.cn 6 3 10 true rfl rfl rfl rfl rfl ?_
 refine Rg.cn 7 3 10 true rfl rfl rfl rfl rfl ?_
 refine Rg.cn 8 3 10 true rfl rfl rfl rfl rfl ?_
 refine Rg.cn 9 3 10 true rfl rfl rfl rfl rfl ?_
 refine Rg.cn 10 3 10 true rfl rfl rfl rfl rfl ?_
 refine Rg.cn 11 3 10 true rfl rfl rfl rfl rfl ?_
 refine Rg.cn 12 3 10 true rfl rfl rfl rfl rfl ?_
 refine Rg.cn 13 3 10 true rfl rfl rfl rfl rfl ?_
 refine Rg.cn 14 3 10 true rfl rfl rfl rfl rfl ?_
 refine Rg.cn 15 3 10 true rfl rfl rfl rfl rfl ?_
 refine Rg.cpe 16 rfl rfl (by intro ax wx hk Kx hK;have k10 := hk.e 3 10 rfl rfl rfl;have k21 := hk.e 14 21 rfl rfl rfl;clear hk;go_simp;exact Rg.ok hK) ?_
 refine Rg.build_end fun wx hj => ?_
 iterate 16 refine Rg.fin_eq rfl ?_
 refine Rg.fin_nil ?_
 simp only [List.set_cons_zero,List.set_cons_succ]
 have HA := Lib.hid hj.1;have HR := Lib.hid hj.2.1;have HO := Lib.hid hj.2.2
 clear hj
 go_wp2_with fail
 refine (member_any g s p o x _ HA.out HP.out HM.out).mono ?_
 rintro e9 w2 ⟨hO2,hS,v,hv,rfl,hq⟩
 have HR2 := Lib.hid (HR.out.only hO2 HG.out)
 have HO2 := Lib.hid (HO.out.tr hO2)
 have HV := Lib.hid hv
 clear hO2 hv
 cases hmf : memberF s p with
 | no cc yy =>
  rw [hmf] at hS
  obtain ⟨pb,hS⟩ := hS
  have hcc : cc ≠ 0 := by have := (memberF_in s p HP.out).1;rw [hmf] at this;have := this.1;omega
  have HX : Hid (R = .no cc yy) := Lib.hid (by rw [HR0X.out,hmf];rfl)
  have HS := Lib.hid hS;have HCC := Lib.hid hcc
  clear hS hq hcc hmf
  go_wp2_with fail
  refine (peek_bad g s pb o cc yy _ HS.out HCC.out).mono ?_
  rintro e9 w3 ⟨rfl,hb⟩
  have HS3 := Lib.hid (HS.out.below hb);have HR3 := Lib.hid (HR2.out.below hb);have HO3 := Lib.hid (HO2.out.tb hb)
  clear hb
  go_wp2_with fail
  refine (rangeN v v _ HV.out HV.out).mono ?_
  rintro e9 w4 ⟨rfl,hb⟩
  have HS4 := Lib.hid (HS3.out.below hb);have HR4 := Lib.hid (HR3.out.below hb);have HO4 := Lib.hid (HO3.out.tb hb)
  clear hb
  have d0 := (HR4.out).cell 0 _ rfl;have d1 := (HR4.out).cell 1 _ rfl;have d2 := (HR4.out).cell 2 _ rfl;have d3 := (HR4.out).cell 3 _ rfl
  have f0 := (HR4.out).frozen 0;have f1 := (HR4.out).frozen 1;have f2 := (HR4.out).frozen 2;have f3 := (HR4.out).frozen 3
  unfold setOf
  go_wp2_with fail
  refine bodyPost_ret (v := setOf (spanF v (v + 1))) (by simp [results,Tryz.results128,go_sem,d0,d1,d2,d3];try rfl) rfl ⟨_,rfl,?_,?_,fun a q h => by rw [HX.out] at h;cases h⟩
  ·rw [HX.out];exact ⟨pb,putS_far HS4.out HG2.out _⟩
  ·exact HO4.out.pS _ _ (.inr HZ.out)
 | ok lo q =>
  rw [hmf] at hS hq
  obtain rfl := hq lo q rfl
  have hq0 : q ≤ s.size := by have := (memberF_in s p HP.out).1;rw [hmf] at this;exact this.2
  have HS := Lib.hid hS;have HQ := Lib.hid hq0
  clear hS hq
  have HPK := Lib.hid (peek_any g s q o x _ HS.out)
  have HX9 : Hid (R = itemE s (.ok v q)) := Lib.hid (by rw [HR0X.out,hmf])
  clear hmf
  have hie : ∀ c,ch s q = c → itemE s (.ok v q) = if c = 45 then (match memberF s (q + 1) with | .no c x => .no c x | .ok hi r => if hi < v then .no 2 (r - 1) else .ok (spanF v (hi + 1)) r) else .ok (spanF v (v + 1)) q := fun c hc => by rw [itemE,hc];rfl
  have hgeq : 0 ≤ ch s q → q < s.size := ch_ge
  generalize ch s q = c at *
  have hie := hie c rfl
  by_cases h45 : c = 45
  ·subst h45
   have HX0 : Hid (R = (match memberF s (q + 1) with | .no c x => .no c x | .ok hi r => if hi < v then .no 2 (r - 1) else .ok (spanF v (hi + 1)) r)) := Lib.hid (by rw [HX9.out,hie,if_pos rfl])
   have hq1 : q + 1 ≤ s.size := hgeq (by decide)
   have HQ1 := Lib.hid hq1
   have hq1' : (q : Int) < 1000 := by have := HM.out;omega
   obtain ⟨qi,hqi⟩ : ∃ qi : Int,qi = (q : Int) := ⟨_,rfl⟩
   have HS := HS
   rw [← hqi] at hq1'
   have hS : AtG w2 g 114 (rdr s qi o 0 x) := by rw [hqi];exact HS.out
   have hqi0 : 0 ≤ qi := by omega
   clear HS
   have HS := Lib.hid hS;have HQI := Lib.hid hqi;clear hS hq1 hie hgeq hqi
   go_wp2_with fail
   refine (HPK.out).mono ?_
   rintro e9 w3 ⟨rfl,hb⟩
   have HS3 := Lib.hid (HS.out.below hb);have HR3 := Lib.hid (HR2.out.below hb);have HO3 := Lib.hid (HO2.out.tb hb)
   clear hb
   have z1 : w3.cell? ⟨g,1,none⟩ = some (.int .i64 qi) := HS3.out.cell 1 _ rfl
   have f1 := HS3.out.frozen 1
   go_wp2_with fail
   have hat : AtG (w3.setCell ⟨g,1,none⟩ (.int .i64 (qi + 1))) g 114 (rdr s ((q + 1 : Nat) : Int) o 0 x) := by
    rw [show ((q + 1 : Nat) : Int) = qi + 1 from by have := HQI.out;omega];exact HS3.out.set 1 _
   have HR4 := Lib.hid (HR3.out.far (p := ⟨g,1,none⟩) HG.out (.int .i64 (qi + 1)))
   have HO4 := Lib.hid (HO3.out.st g 1 (.int .i64 (qi + 1)) (.inl rfl))
   refine (member_any g s (q + 1) o x _ hat HQ1.out HM.out).mono ?_
   rintro e9 w5 ⟨hO5,hS5,v5,hv5,rfl,hq5⟩
   have HR5 := Lib.hid (HR4.out.only hO5 HG.out)
   have HO5 := Lib.hid (HO4.out.tr hO5)
   have HV5 := Lib.hid hv5
   clear hat HR4 HO4 hO5 hv5 HR3 HO3 HS3 z1 f1
   have hvI : (v : Int) < 256 := by have := HV.out;omega
   have hv5I : (v5 : Int) < 256 := by have := HV5.out;omega
   cases hmf : memberF s (q + 1) with
   | no cc yy =>
    rw [hmf] at hS5
    obtain ⟨pb,hS5⟩ := hS5
    have hcc : cc ≠ 0 := by have := (memberF_in s (q + 1) HQ1.out).1;rw [hmf] at this;have := this.1;omega
    have HX : Hid (R = .no cc yy) := Lib.hid (by rw [HX0.out,hmf])
    have HS5 := Lib.hid hS5;have HCC := Lib.hid hcc
    have z1 : w5.cell? ⟨g,1,none⟩ = some (.int .i64 pb) := HS5.out.cell 1 _ rfl
    clear hS5 hq5 hcc hmf
    by_cases hlt : (v5 : Int) < (v : Int)
    ·go_wp2_with fail
     refine (fail_no g s pb o cc yy _ 2 _ HS5.out HCC.out).mono ?_
     rintro e9 w9 ⟨rfl,hw9⟩;subst hw9
     go_wp2_with fail
     refine (rangeN v v5 _ HV.out HV5.out).mono ?_
     rintro e9 w4 ⟨rfl,hb⟩
     have HS4 := Lib.hid (HS5.out.below hb);have HR4 := Lib.hid (HR5.out.below hb);have HO4 := Lib.hid (HO5.out.tb hb)
     clear hb z1
     have d0 := (HR4.out).cell 0 _ rfl;have d1 := (HR4.out).cell 1 _ rfl;have d2 := (HR4.out).cell 2 _ rfl;have d3 := (HR4.out).cell 3 _ rfl
     have f0 := (HR4.out).frozen 0;have f1 := (HR4.out).frozen 1;have f2 := (HR4.out).frozen 2;have f3 := (HR4.out).frozen 3
     unfold setOf
     go_wp2_with fail
     refine bodyPost_ret (v := setOf (spanF v (v5 + 1))) (by simp [results,Tryz.results128,go_sem,d0,d1,d2,d3];try rfl) rfl ⟨_,rfl,?_,?_,fun a q h => by rw [HX.out] at h;cases h⟩
     ·rw [HX.out];exact ⟨pb,putS_far HS4.out HG2.out _⟩
     ·exact HO4.out.pS _ _ (.inr HZ.out)
    ·go_wp2_with fail
     refine (rangeN v v5 _ HV.out HV5.out).mono ?_
     rintro e9 w4 ⟨rfl,hb⟩
     have HS4 := Lib.hid (HS5.out.below hb);have HR4 := Lib.hid (HR5.out.below hb);have HO4 := Lib.hid (HO5.out.tb hb)
     clear hb z1
     have d0 := (HR4.out).cell 0 _ rfl;have d1 := (HR4.out).cell 1 _ rfl;have d2 := (HR4.out).cell 2 _ rfl;have d3 := (HR4.out).cell 3 _ rfl
     have f0 := (HR4.out).frozen 0;have f1 := (HR4.out).frozen 1;have f2 := (HR4.out).frozen 2;have f3 := (HR4.out).frozen 3
     unfold setOf
     go_wp2_with fail
     refine bodyPost_ret (v := setOf (spanF v (v5 + 1))) (by simp [results,Tryz.results128,go_sem,d0,d1,d2,d3];try rfl) rfl ⟨_,rfl,?_,?_,fun a q h => by rw [HX.out] at h;cases h⟩
     ·rw [HX.out];exact ⟨pb,putS_far HS4.out HG2.out _⟩
     ·exact HO4.out.pS _ _ (.inr HZ.out)
   | ok hi r =>
    rw [hmf] at hS5 hq5
    obtain rfl := hq5 hi r rfl
    have hr0 : q + 2 ≤ r ∧ r ≤ s.size := by have := (memberF_in s (q + 1) HQ1.out).1;rw [hmf] at this;exact this
    have HX1 : Hid (R = (if v5 < v then .no 2 (r - 1) else .ok (spanF v (v5 + 1)) r)) := Lib.hid (by rw [HX0.out,hmf])
    obtain ⟨ri,hri⟩ : ∃ ri : Int,ri = (r : Int) := ⟨_,rfl⟩
    have hS5 : AtG w5 g 114 (rdr s ri o 0 x) := by rw [hri];exact hS5
    have HS5 := Lib.hid hS5
    have z1 : w5.cell? ⟨g,1,none⟩ = some (.int .i64 ri) := HS5.out.cell 1 _ rfl
    have hr1 : ri - 1 = ((r - 1 : Nat) : Int) := by omega
    have HR1 := Lib.hid hr1
    have hr2 : 0 ≤ ri - 1 := by omega
    have hr3 : ri < 10000 := by have := HM.out;omega
    have HRI := Lib.hid hri
    clear hS5 hq5 hmf hri hr0
    by_cases hlt : (v5 : Int) < (v : Int)
    ·have HX : Hid (R = .no 2 (r - 1)) := Lib.hid (by rw [HX1.out,if_pos (by omega)])
     go_wp2_with fail
     refine (failO g s ri o x _ 2 _ HS5.out).mono ?_
     rintro e9 w6 ⟨rfl,hA6,hO6⟩
     have HS6 := Lib.hid hA6;have HR6 := Lib.hid (HR5.out.only hO6 HG.out);have HO6 := Lib.hid (HO5.out.tr hO6)
     clear hA6 hO6 z1
     go_wp2_with fail
     refine (rangeN v v5 _ HV.out HV5.out).mono ?_
     rintro e9 w4 ⟨rfl,hb⟩
     have HS4 := Lib.hid (HS6.out.below hb);have HR4 := Lib.hid (HR6.out.below hb);have HO4 := Lib.hid (HO6.out.tb hb)
     clear hb
     have d0 := (HR4.out).cell 0 _ rfl;have d1 := (HR4.out).cell 1 _ rfl;have d2 := (HR4.out).cell 2 _ rfl;have d3 := (HR4.out).cell 3 _ rfl
     have f0 := (HR4.out).frozen 0;have f1 := (HR4.out).frozen 1;have f2 := (HR4.out).frozen 2;have f3 := (HR4.out).frozen 3
     unfold setOf
     go_wp2_with fail
     refine bodyPost_ret (v := setOf (spanF v (v5 + 1))) (by simp [results,Tryz.results128,go_sem,d0,d1,d2,d3];try rfl) rfl ⟨_,rfl,?_,?_,fun a q h => by rw [HX.out] at h;cases h⟩
     ·rw [HX.out];exact ⟨ri,putS_far (by first | exact HS4.out | (rw [← HR1.out];exact HS4.out)) HG2.out _⟩
     ·exact HO4.out.pS _ _ (.inr HZ.out)
    ·have HX : Hid (R = .ok (spanF v (v5 + 1)) r) := Lib.hid (by rw [HX1.out,if_neg (by omega)])
     go_wp2_with fail
     refine (rangeN v v5 _ HV.out HV5.out).mono ?_
     rintro e9 w4 ⟨rfl,hb⟩
     have HS4 := Lib.hid (HS5.out.below hb);have HR4 := Lib.hid (HR5.out.below hb);have HO4 := Lib.hid (HO5.out.tb hb)
     clear hb z1
     have d0 := (HR4.out).cell 0 _ rfl;have d1 := (HR4.out).cell 1 _ rfl;have d2 := (HR4.out).cell 2 _ rfl;have d3 := (HR4.out).cell 3 _ rfl
     have f0 := (HR4.out).frozen 0;have f1 := (HR4.out).frozen 1;have f2 := (HR4.out).frozen 2;have f3 := (HR4.out).frozen 3
     unfold setOf
     go_wp2_with fail
     refine bodyPost_ret (v := setOf (spanF v (v5 + 1))) (by simp [results,Tryz.results128,go_sem,d0,d1,d2,d3];try rfl) rfl ⟨_,rfl,?_,?_,fun a q h => by rw [HX.out] at h;injection h⟩
     ·rw [HX.out];show AtG _ g _ (rdr s (r : Int) o 0 x);rw [← HRI.out];exact putS_far HS4.out HG2.out _
     ·exact HO4.out.pS _ _ (.inr HZ.out)
  ·have HX : Hid (R = .ok (spanF v (v + 1)) q) := Lib.hid (by rw [HX9.out,hie,if_neg h45])
   have e45 : (c == 45) = false := by rw [beq_eq_false_iff_ne];exact h45
   clear h45 hie hgeq
   go_wp2_with fail
   refine (HPK.out).mono ?_
   rintro e9 w3 ⟨rfl,hb⟩
   have HS3 := Lib.hid (HS.out.below hb);have HR3 := Lib.hid (HR2.out.below hb);have HO3 := Lib.hid (HO2.out.tb hb)
   clear hb
   go_wp2_with fail
   refine (rangeN v v _ HV.out HV.out).mono ?_
   rintro e9 w4 ⟨rfl,hb⟩
   have HS4 := Lib.hid (HS3.out.below hb);have HR4 := Lib.hid (HR3.out.below hb);have HO4 := Lib.hid (HO3.out.tb hb)
   clear hb
   have d0 := (HR4.out).cell 0 _ rfl;have d1 := (HR4.out).cell 1 _ rfl;have d2 := (HR4.out).cell 2 _ rfl;have d3 := (HR4.out).cell 3 _ rfl
   have f0 := (HR4.out).frozen 0;have f1 := (HR4.out).frozen 1;have f2 := (HR4.out).frozen 2;have f3 := (HR4.out).frozen 3
   unfold setOf
   go_wp2_with fail
   refine bodyPost_ret (v := setOf (spanF v (v + 1))) (by simp [results,Tryz.results128,go_sem,d0,d1,d2,d3];try rfl) rfl ⟨_,rfl,?_,?_,fun a q h => by rw [HX.out] at h;injection h⟩
   ·rw [HX.out];exact putS_far HS4.out HG2.out _
   ·exact HO4.out.pS _ _ (.inr HZ.out)
theorem item_any (g : Nat) (s : ByteArray) (p : Nat) (o x : Int) (w : World) (h : AtG w g 114 (rdr s p o 0 x)) (hp : p ≤ s.size) (hm : s.size ≤ 1000) :
  Calls Tryz.prog 128 #[.pointer (some ⟨g,0,none⟩)] w fun e w' => ∃ F : Nat → Bool,e = .returned (setOf F) ∧ StR s g o x (itemF s p) w' ∧ Only (fun k => k = g) w w' ∧ ∀ f q,itemF s p = .ok f q → F = f := by
 by_cases h92 : ch s p = 92
 ·by_cases hn : p + 1 < s.size
  ·cases hwd : wideF (ch s (p + 1)) with
   | some F => exact item_some g s p o x w h hp hm h92 hn F hwd
   | none => exact item_none g s p o x w h hp hm h92 hn hwd
  ·exact item_last g s p o x w h hp hm h92 hn
 ·exact item_other g s p o x w h hp hm h92
end Go.Proofs.YtgjcibhhffkemaaGreatDoor
namespace Go.Proofs.YtgjcibhhffkemaaGreatDoor
open Go.RowKit Bt
def nodeV (t : Tree) (kv : Value) : Value := match t with | .node op f mn mx _ => .agg #[.int .i64 op,.int .u64 ((wd f 0 : Nat) : Int),.int .u64 ((wd f 1 : Nat) : Int),.int .u64 ((wd f 2 : Nat) : Int),.int .u64 ((wd f 3 : Nat) : Int),.int .i64 mn,.int .i64 mx,kv]
def nodeL (t : Tree) (kv : Value) : List Value := match t with | .node op f mn mx _ => [.int .i64 op,.int .u64 ((wd f 0 : Nat) : Int),.int .u64 ((wd f 1 : Nat) : Int),.int .u64 ((wd f 2 : Nat) : Int),.int .u64 ((wd f 3 : Nat) : Int),.int .i64 mn,.int .i64 mx,kv]
theorem nodeL_len (t : Tree) (kv : Value) : (nodeL t kv).length = 8 := by cases t;rfl
mutual
def KAt (D : Nat → Prop) (w : World) : Tree → Value → Prop
 | .node _ _ _ _ kids,kv => (kids = [] ∧ ∃ a c,kv = .slice a 0 c) ∨ (kids ≠ [] ∧ kids.length ≤ 1000 ∧ ∃ b off cap,kv = .slice (some ⟨b,off,none⟩) kids.length cap ∧ kids.length ≤ cap ∧ D b ∧ KRow D w kids b off)
def KRow (D : Nat → Prop) (w : World) : List Tree → Nat → Nat → Prop
 | [],_,_ => True
 | t :: l,b,off => (∃ kv,(∀ i,i < 8 → w.cell? ⟨b,off + i,none⟩ = (nodeL t kv)[i]?) ∧ KAt D w t kv) ∧ KRow D w l b (off + 8)
end
theorem cell_same {w w' : World} {b : Nat} (h : w'.heap[b]? = w.heap[b]?) (i : Nat) : w'.cell? ⟨b,i,none⟩ = w.cell? ⟨b,i,none⟩ := by
 unfold World.cell?;simp only [h]
mutual
theorem KAt.keep {D D' : Nat → Prop} {w w' : World} (hk : ∀ b,D b → w'.heap[b]? = w.heap[b]?) (hD : ∀ b,D b → D' b) : ∀ (t : Tree) (kv : Value),KAt D w t kv → KAt D' w' t kv
 | .node op f mn mx kids,kv,h => by
  rw [KAt] at h ⊢
  rcases h with h | ⟨h1,hl,b,off,cap,h2,h3,h4,h5⟩
  ·exact .inl h
  ·exact .inr ⟨h1,hl,b,off,cap,h2,h3,hD b h4,KRow.keep hk hD kids b off h4 h5⟩
theorem KRow.keep {D D' : Nat → Prop} {w w' : World} (hk : ∀ b,D b → w'.heap[b]? = w.heap[b]?) (hD : ∀ b,D b → D' b) : ∀ (l : List Tree) (b off : Nat),D b → KRow D w l b off → KRow D' w' l b off
 | [],b,off,hb,h => by rw [KRow];trivial
 | t :: l,b,off,hb,h => by
  rw [KRow] at h ⊢
  obtain ⟨⟨kv,h1,h2⟩,h3⟩ := h
  exact ⟨⟨kv,fun i hi => by rw [cell_same (hk b hb)];exact h1 i hi,KAt.keep hk hD t kv h2⟩,KRow.keep hk hD l b (off + 8) hb h3⟩
end
def Iv (lo hi : Nat) : Nat → Prop := fun b => lo ≤ b ∧ b < hi
theorem KAt.below {lo hi hi' : Nat} {w w' : World} {t : Tree} {kv : Value} (h : KAt (Iv lo hi) w t kv) (hb : Below hi w w') (hh : hi ≤ hi') : KAt (Iv lo hi') w' t kv :=
 KAt.keep (fun b hb' => hb.block b hb'.2) (fun b h => ⟨h.1,Nat.lt_of_lt_of_le h.2 hh⟩) t kv h
theorem KAt.only {D : Nat → Prop} {S : Nat → Prop} {w w' : World} {t : Tree} {kv : Value} (h : KAt D w t kv) (hb : Only S w w') (hD : ∀ b,D b → b < w.heap.size ∧ ¬ S b) : KAt D w' t kv :=
 KAt.keep (fun b hb' => hb.block b (hD b hb').1 (hD b hb').2) (fun b h => h) t kv h
theorem KAt.mono {D D' : Nat → Prop} {w : World} {t : Tree} {kv : Value} (h : KAt D w t kv) (hD : ∀ b,D b → D' b) : KAt D' w t kv := KAt.keep (fun _ _ => rfl) hD t kv h
theorem KRow.get {D : Nat → Prop} {w : World} : ∀ (l : List Tree) (b off j : Nat) (t : Tree),KRow D w l b off → l[j]? = some t → ∃ kv,(∀ i,i < 8 → w.cell? ⟨b,off + 8 * j + i,none⟩ = (nodeL t kv)[i]?) ∧ KAt D w t kv
 | [],b,off,j,t,h,hj => by simp at hj
 | t :: l,b,off,0,u,h,hj => by
  rw [KRow] at h
  simp at hj;subst hj
  simpa using h.1
 | t :: l,b,off,j + 1,u,h,hj => by
  rw [KRow] at h
  obtain ⟨kv,h1,h2⟩ := KRow.get l b (off + 8) j u h.2 (by simpa using hj)
  exact ⟨kv,fun i hi => by rw [← h1 i hi,show off + 8 * (j + 1) + i = off + 8 + 8 * j + i from by omega],h2⟩
theorem KRow.mk {D : Nat → Prop} {w : World} : ∀ (l : List Tree) (b off : Nat),(∀ j t,l[j]? = some t → ∃ kv,(∀ i,i < 8 → w.cell? ⟨b,off + 8 * j + i,none⟩ = (nodeL t kv)[i]?) ∧ KAt D w t kv) → KRow D w l b off
 | [],b,off,h => by rw [KRow];trivial
 | t :: l,b,off,h => by
  rw [KRow]
  refine ⟨by simpa using h 0 t rfl,KRow.mk l b (off + 8) fun j u hj => ?_⟩
  obtain ⟨kv,h1,h2⟩ := h (j + 1) u (by simpa using hj)
  exact ⟨kv,fun i hi => by rw [← h1 i hi,show off + 8 * (j + 1) + i = off + 8 + 8 * j + i from by omega],h2⟩
theorem KAt.slice {D : Nat → Prop} {w : World} {op : Int} {f : Nat → Bool} {mn mx : Int} {kids : List Tree} {kv : Value} (h : KAt D w (.node op f mn mx kids) kv) : ∃ a c,kv = .slice a kids.length c := by
 rw [KAt] at h
 rcases h with ⟨rfl,a,c,rfl⟩ | ⟨_,_,b,off,cap,rfl,_⟩
 ·exact ⟨a,c,rfl⟩
 ·exact ⟨_,cap,rfl⟩
def flatN (ps : List (Tree × Value)) : List Value := ps.flatMap (fun p => nodeL p.1 p.2)
theorem flatN_snoc (ps : List (Tree × Value)) (t : Tree) (kv : Value) : flatN (ps ++ [(t,kv)]) = flatN ps ++ nodeL t kv := by unfold flatN;rw [List.flatMap_append];simp
theorem flatN_one (t : Tree) (kv : Value) : flatN [(t,kv)] = nodeL t kv := by unfold flatN;simp
theorem flatN_get : ∀ (ps : List (Tree × Value)) (j : Nat) (p : Tree × Value),ps[j]? = some p → ∀ i,i < 8 → (flatN ps)[8 * j + i]? = (nodeL p.1 p.2)[i]?
 | [],j,p,h,i,hi => by simp at h
 | q :: ps,0,p,h,i,hi => by
  simp at h;subst h
  unfold flatN;rw [List.flatMap_cons,List.getElem?_append_left (by rw [nodeL_len];omega)];simp
 | q :: ps,j + 1,p,h,i,hi => by
  have h1 := flatN_get ps j p (by simpa using h) i hi
  unfold flatN at h1 ⊢
  rw [List.flatMap_cons,List.getElem?_append_right (by rw [nodeL_len];omega),nodeL_len,show 8 * (j + 1) + i - 8 = 8 * j + i from by omega]
  exact h1
theorem flatN_len (ps : List (Tree × Value)) : (flatN ps).length = ps.length * 8 := by
 induction ps with
 | nil => rfl
 | cons p ps ih => unfold flatN at *;rw [List.flatMap_cons,List.length_append,nodeL_len,ih,List.length_cons];omega
def AllK (D : Nat → Prop) (w : World) (ps : List (Tree × Value)) : Prop := ∀ p ∈ ps,KAt D w p.1 p.2
theorem infoNode : (Tryz.prog.info? 41).map (fun i => (i.zero,i.size,i.bytes)) = some (some (.agg #[.int .i64 0,.int .u64 0,.int .u64 0,.int .u64 0,.int .u64 0,.int .i64 0,.int .i64 0,.slice none 0 0]),8,80) := by kernel_rfl
theorem own_kids {D : Nat → Prop} {w : World} {base n : Nat} {v : Value} {ps : List (Tree × Value)} (h : w.ownsRow base 41 8 v n (flatN ps)) (ha : AllK D w ps) (hn : ps ≠ []) :
  ∃ b cap,v = .slice (some ⟨b,0,none⟩) ps.length cap ∧ ps.length ≤ cap ∧ base ≤ b ∧ b < w.heap.size ∧ v.ownBlock = some b ∧ KRow D w (ps.map (·.1)) b 0 := by
 have hl := h.1
 rw [flatN_len] at hl
 have hl : ps.length = n := by omega
 rcases h.2 with ⟨rfl,h0⟩ | ⟨g,cap,cur,rfl,hb,hh,hnc,hcm,hcs,hct⟩
 ·exact absurd (List.eq_nil_of_length_eq_zero (by omega)) hn
 ·refine ⟨g,cap,by rw [hl],by omega,hb,(Array.getElem?_eq_some_iff.1 hh).1,rfl,KRow.mk _ _ _ fun j t hj => ?_⟩
  rw [List.getElem?_map] at hj
  obtain ⟨p,hp,rfl⟩ := Option.map_eq_some_iff.1 hj
  refine ⟨p.2,fun i hi => ?_,ha p (List.mem_of_getElem? hp)⟩
  have hg := flatN_get ps j p hp i hi
  have hi2 : i < (nodeL p.1 p.2).length := by rw [nodeL_len];exact hi
  rw [List.getElem?_eq_getElem hi2] at hg ⊢
  rw [← hct,List.getElem?_take] at hg
  split at hg
  ·have : cur[8 * j + i]? = some (nodeL p.1 p.2)[i] := by simpa using hg
   simp [World.cell?,hh,this]
  ·cases hg
theorem own_node {w : World} {g base : Nat} {t : Tree} {kv : Value} (h : AtG w g 41 (nodeL t kv).toArray) (hb : base ≤ g) : w.ownsRow base 41 8 (.slice (some ⟨g,0,none⟩) 1 1) 1 (flatN [(t,kv)]) := by
 rw [flatN_one]
 exact ⟨by rw [nodeL_len],.inr ⟨g,1,_,rfl,hb,h,Nat.le_refl _,by decide,by simp [nodeL_len],by rw [show 1 * 8 = (nodeL t kv).length from by rw [nodeL_len]];simp⟩⟩
set_option maxRecDepth 100000 in
theorem one_any (f : Nat → Bool) (w : World) : Calls Tryz.prog 108 #[setOf f] w fun e w' => e = .returned (nodeV (one f) (.slice none 0 0)) ∧ Below w.heap.size w w' := by
 unfold setOf
 go_enter Tryz.func108,Tryz.ntmps108
 go_wp2
 go_returns
 exact ⟨rfl,by go_grown⟩
end Go.Proofs.YtgjcibhhffkemaaGreatDoor
namespace Go.Proofs.YtgjcibhhffkemaaGreatDoor
open Go.RowKit Bt
set_option maxRecDepth 100000 in
theorem number_any (g : Nat) (s : ByteArray) (p : Nat) (o x : Int) (w : World) (h : AtG w g 114 (rdr s p o 0 x)) (hp : p ≤ s.size) (hm : s.size ≤ 1000) :
  Calls Tryz.prog 98 #[.pointer (some ⟨g,0,none⟩)] w fun e w' => ∃ v : Int,e = .returned (.int .i64 v) ∧ StR s g o x (numF s p) w' ∧ Only (fun k => k = g) w w' ∧ (∀ a q,numF s p = .ok a q → v = a) ∧ 0 ≤ v ∧ v ≤ 99 := by
 by_cases hc : ch s p < 0
 ·have HN := Lib.hid (next_no g s p o x w h hp hc)
  have he : numF s p = .no 2 p := by unfold numF;rw [if_pos (by omega)]
  rw [he]
  clear he h hc hp
  go_enter Tryz.func98,Tryz.ntmps98
  go_wp2_with fail
  refine (HN.out).mono ?_
  rintro e9 w1 ⟨rfl,hA,hO⟩
  have HA := Lib.hid hA;have HO := Lib.hid hO;clear hA hO
  have z1 : w1.cell? ⟨g,1,none⟩ = some (.int .i64 (p : Int)) := HA.out.cell 1 _ rfl
  go_wp2_with fail
  refine (fail_no g s _ o 2 _ _ 2 _ HA.out (by decide)).mono ?_
  rintro e9 w9 ⟨rfl,rfl⟩
  go_wp2_with fail
  go_returns
  exact ⟨0,rfl,⟨_,HA.out⟩,HO.out,(fun a q h => by cases h),by decide,by decide⟩
 have HN := Lib.hid (next_ch g s p o x w h (by omega) (by omega))
 have hp1 := ch_ge (s := s) (p := p) (by omega)
 have hl := ch_lt s p
 have HE := fun w h => Lib.hid (peek_any g s (p + 1) o x w h)
 have hge : 0 ≤ ch s (p + 1) → p + 1 < s.size := ch_ge
 have hl1 := ch_lt s (p + 1)
 obtain ⟨R,hR⟩ : ∃ R,R = numF s p := ⟨_,rfl⟩
 rw [← hR]
 unfold numF at hR
 generalize ch s p = c at *
 generalize ch s (p + 1) = d at *
 obtain ⟨pi,hpi⟩ : ∃ pi : Int,pi = ((p + 1 : Nat) : Int) := ⟨_,rfl⟩
 rw [← hpi] at HN HE
 have hpi2 : pi - 1 = (p : Int) := by omega
 have hpi3 : 0 ≤ pi - 1 := by omega
 have hpi4 : pi < 10000 := by omega
 have HPI := Lib.hid hpi
 clear h hpi
 by_cases h1 : c < 48
 ·have HX : Hid (R = .no 2 p) := Lib.hid (by rw [hR,if_pos (.inl h1)])
  clear hR
  go_enter Tryz.func98,Tryz.ntmps98
  go_wp2_with fail
  refine (HN.out).mono ?_
  rintro e9 w1 ⟨rfl,hA,hO⟩
  have HA := Lib.hid hA;have HO := Lib.hid hO;clear hA hO
  have z1 : w1.cell? ⟨g,1,none⟩ = some (.int .i64 pi) := HA.out.cell 1 _ rfl
  go_wp2_with fail
  refine (failO g s _ o x _ 2 _ HA.out).mono ?_
  rintro e9 w2 ⟨rfl,hA2,hO2⟩
  have HA2 := Lib.hid hA2;have HO2 := Lib.hid (HO.out.tr hO2)
  clear hA2 hO2
  go_wp2_with fail
  go_returns
  exact ⟨0,rfl,by rw [HX.out];exact ⟨_,HA2.out⟩,HO2.out,(fun a q h => by rw [HX.out] at h;cases h),by decide,by decide⟩
 by_cases h2 : 57 < c
 ·have HX : Hid (R = .no 2 p) := Lib.hid (by rw [hR,if_pos (.inr h2)])
  clear hR
  go_enter Tryz.func98,Tryz.ntmps98
  go_wp2_with fail
  refine (HN.out).mono ?_
  rintro e9 w1 ⟨rfl,hA,hO⟩
  have HA := Lib.hid hA;have HO := Lib.hid hO;clear hA hO
  have z1 : w1.cell? ⟨g,1,none⟩ = some (.int .i64 pi) := HA.out.cell 1 _ rfl
  go_wp2_with fail
  refine (failO g s _ o x _ 2 _ HA.out).mono ?_
  rintro e9 w2 ⟨rfl,hA2,hO2⟩
  have HA2 := Lib.hid hA2;have HO2 := Lib.hid (HO.out.tr hO2)
  clear hA2 hO2
  go_wp2_with fail
  go_returns
  exact ⟨0,rfl,by rw [HX.out];exact ⟨_,HA2.out⟩,HO2.out,(fun a q h => by rw [HX.out] at h;cases h),by decide,by decide⟩
 by_cases h3 : 48 ≤ d
 ·by_cases h4 : d ≤ 57
  ·have HX : Hid (R = .ok (10 * (c - 48) + d - 48) (p + 2)) := Lib.hid (by rw [hR,if_neg (by omega),if_pos ⟨h3,h4⟩])
   clear hR
   go_enter Tryz.func98,Tryz.ntmps98
   go_wp2_with fail
   refine (HN.out).mono ?_
   rintro e9 w1 ⟨rfl,hA,hO⟩
   have HA := Lib.hid hA;have HO := Lib.hid hO;clear hA hO
   go_wp2_with fail
   refine ((HE _ HA.out).out).mono ?_
   rintro e9 w2 ⟨rfl,hb⟩
   have HA2 := Lib.hid (HA.out.below hb);have HO2 := Lib.hid (HO.out.tb hb)
   clear hb
   have z1 : w2.cell? ⟨g,1,none⟩ = some (.int .i64 pi) := HA2.out.cell 1 _ rfl
   have f1 := HA2.out.frozen 1
   go_wp2_with fail
   go_returns
   exact ⟨10 * (c - 48) + d - 48,rfl,by rw [HX.out];show AtG _ g _ (rdr s ((p + 2 : Nat) : Int) o 0 x);rw [show ((p + 2 : Nat) : Int) = pi + 1 from by have := HPI.out;omega];exact HA2.out.set 1 _,HO2.out.st g 1 _ (.inl rfl),(fun a q h => by rw [HX.out] at h;injection h),by omega,by omega⟩
  ·have HX : Hid (R = .ok (c - 48) (p + 1)) := Lib.hid (by rw [hR,if_neg (by omega),if_neg (fun h => h4 h.2)])
   clear hR
   go_enter Tryz.func98,Tryz.ntmps98
   go_wp2_with fail
   refine (HN.out).mono ?_
   rintro e9 w1 ⟨rfl,hA,hO⟩
   have HA := Lib.hid hA;have HO := Lib.hid hO;clear hA hO
   go_wp2_with fail
   refine ((HE _ HA.out).out).mono ?_
   rintro e9 w2 ⟨rfl,hb⟩
   have HA2 := Lib.hid (HA.out.below hb);have HO2 := Lib.hid (HO.out.tb hb)
   clear hb
   go_wp2_with fail
   go_returns
   exact ⟨c - 48,rfl,by rw [HX.out];show AtG _ g _ (rdr s ((p + 1 : Nat) : Int) o 0 x);rw [← HPI.out];exact HA2.out,HO2.out,(fun a q h => by rw [HX.out] at h;injection h),by omega,by omega⟩
 ·have HX : Hid (R = .ok (c - 48) (p + 1)) := Lib.hid (by rw [hR,if_neg (by omega),if_neg (fun h => h3 h.1)])
  clear hR
  go_enter Tryz.func98,Tryz.ntmps98
  go_wp2_with fail
  refine (HN.out).mono ?_
  rintro e9 w1 ⟨rfl,hA,hO⟩
  have HA := Lib.hid hA;have HO := Lib.hid hO;clear hA hO
  go_wp2_with fail
  refine ((HE _ HA.out).out).mono ?_
  rintro e9 w2 ⟨rfl,hb⟩
  have HA2 := Lib.hid (HA.out.below hb);have HO2 := Lib.hid (HO.out.tb hb)
  clear hb
  go_wp2_with fail
  go_returns
  exact ⟨c - 48,rfl,by rw [HX.out];show AtG _ g _ (rdr s ((p + 1 : Nat) : Int) o 0 x);rw [← HPI.out];exact HA2.out,HO2.out,(fun a q h => by rw [HX.out] at h;injection h),by omega,by omega⟩
end Go.Proofs.YtgjcibhhffkemaaGreatDoor
namespace Go.Proofs.YtgjcibhhffkemaaGreatDoor
open Go.RowKit Bt
def leftR (s : ByteArray) (g : Nat) (w : World) : Nat :=
 match w.cell? ⟨g,1,none⟩,w.cell? ⟨g,3,none⟩ with
 | some (.int _ a),some (.int _ b) => if b = 0 then s.size + 2 - a.toNat else 0
 | _,_ => 0
theorem leftR_ok {s : ByteArray} {g p : Nat} {o x : Int} {w : World} (h : AtG w g 114 (rdr s p o 0 x)) : leftR s g w = s.size + 2 - p := by
 have h1 : w.cell? ⟨g,1,none⟩ = some (.int .i64 (p : Int)) := h.cell 1 _ rfl
 have h3 : w.cell? ⟨g,3,none⟩ = some (.int .i64 0) := h.cell 3 _ rfl
 unfold leftR;rw [h1,h3];simp
theorem leftR_no {s : ByteArray} {g : Nat} {p o x b : Int} {w : World} (h : AtG w g 114 (rdr s p o b x)) (hb : b ≠ 0) : leftR s g w = 0 := by
 have h1 : w.cell? ⟨g,1,none⟩ = some (.int .i64 p) := h.cell 1 _ rfl
 have h3 : w.cell? ⟨g,3,none⟩ = some (.int .i64 b) := h.cell 3 _ rfl
 unfold leftR;rw [h1,h3];simp [hb]
theorem StR.far {α : Type} {s : ByteArray} {g : Nat} {o x : Int} {r : Re α} {w : World} (h : StR s g o x r w) {gg : Nat} (hg : g ≠ gg) (f : Nat → Bool) : StR s g o x r (putS w gg f) := by
 cases r with
 | ok a q => exact putS_far h hg f
 | no c y => obtain ⟨p,h⟩ := h;exact ⟨p,putS_far h hg f⟩
theorem StR.below {α : Type} {s : ByteArray} {g : Nat} {o x : Int} {r : Re α} {w w' : World} (h : StR s g o x r w) (hb : Below w.heap.size w w') : StR s g o x r w' := by
 cases r with
 | ok a q => exact AtG.below h hb
 | no c y => obtain ⟨p,h⟩ := h;exact ⟨p,h.below hb⟩
def negF (b : Bool) (f : Nat → Bool) : Nat → Bool := if b then (fun y => !f y) else f
set_option maxRecDepth 100000 in
set_option maxHeartbeats 1600000 in
theorem class_neg (g : Nat) (s : ByteArray) (p : Nat) (o x : Int) (w : World) (h : AtG w g 114 (rdr s p o 0 x)) (hp : p ≤ s.size) (hm : s.size ≤ 1000) (h94 : ch s p = 94) :
  Calls Tryz.prog 109 #[.pointer (some ⟨g,0,none⟩)] w fun e w' => ∃ F : Nat → Bool,e = .returned (setOf F) ∧ StR s g o x (classF s p) w' ∧ Only (fun k => k = g) w w' ∧ ∀ f q,classF s p = .ok f q → F = f := by
 have HM := Lib.hid hm
 have HLT := Lib.hid h.lt
 have HR0 := Lib.hid (AtG.new w 38 (setC 0 0 0 0))
 have HA0 := Lib.hid (h.alloc (.cells (setC 0 0 0 0) 38))
 have HO0 := Lib.hid ((Only.refl (S := fun k => k = g) w).al (.cells (setC 0 0 0 0) 38))
 have HG : Hid (w.heap.size ≠ g) := Lib.hid (by have := h.lt;omega)
 have HG2 : Hid (g ≠ w.heap.size) := Lib.hid (by have := h.lt;omega)
 have HPK0 := Lib.hid (peek_any g s p o x _ HA0.out)
 obtain ⟨R,hR⟩ : ∃ R,R = classF s p := ⟨_,rfl⟩
 rw [← hR]
 have hRX : R = clsE s true (itemF s (p + 1)) := by rw [hR];unfold classF;rw [if_pos h94]
 have hp1 := ch_ge (s := s) (p := p) (by omega)
 obtain ⟨p0,hp0⟩ : ∃ p0,p0 = p + 1 := ⟨_,rfl⟩
 rw [← hp0] at hRX
 have HP : Hid (p0 ≤ s.size) := Lib.hid (by omega)
 have HRX := Lib.hid hRX
 have HP0 : Hid ((p0 : Int) = (p : Int) + 1) := Lib.hid (by omega)
 have hwp : IntKind.i64.wrap ((p : Int) + 1) = (p : Int) + 1 := by rw [IntKind.wrap_i64];omega
 rw [h94] at HPK0
 have hpI : (p : Int) < 1001 := by omega
 clear hR hRX hp0 hp1 h94 h hp hm
 go_enter Tryz.func109,Tryz.ntmps109
 go_wp2_with fail
 refine (HPK0.out).mono ?_
 rintro e9 w1 ⟨rfl,hb⟩
 have HA1 := Lib.hid (HA0.out.below hb);have HR1 := Lib.hid (HR0.out.below hb);have HO1 := Lib.hid (HO0.out.tb hb)
 clear hb
 have z1 : w1.cell? ⟨g,1,none⟩ = some (.int .i64 (p : Int)) := HA1.out.cell 1 _ rfl
 have y1 := HA1.out.frozen 1
 have HA := Lib.hid (show AtG (w1.setCell ⟨g,1,none⟩ (.int .i64 ((p : Int) + 1))) g 114 (rdr s (p0 : Int) o 0 x) from by rw [HP0.out];exact HA1.out.set 1 _)
 have HR := Lib.hid (HR1.out.far (p := ⟨g,1,none⟩) HG.out (.int .i64 ((p : Int) + 1)))
 have HO := Lib.hid (HO1.out.st g 1 (.int .i64 ((p : Int) + 1)) (.inl rfl))
 clear HA1 HR1 HO1
 go_wp2_with fail
 refine (item_any g s p0 o x _ HA.out HP.out HM.out).mono ?_
 rintro e9 w2 ⟨F0,rfl,hS,hO2,hq⟩
 have HR2 := Lib.hid (HR.out.only hO2 HG.out)
 have HO2 := Lib.hid (HO.out.tr hO2)
 have HS := Lib.hid hS;have HF0 := Lib.hid hq
 clear hS hO2 hq HR HO HA
 have HGS : Hid (w.heap.size ≠ w2.heap.size ∧ w2.heap.size ≠ g ∧ w.heap.size ≤ w2.heap.size ∧ g ≠ w2.heap.size) := Lib.hid (by
  have h1 := HR2.out.lt
  have h2 := HO2.out.size
  have h3 := HLT.out
  omega)
 unfold setOf
 go_wp2_with fail
 go_loopw [] (fun wr => ∃ F : Nat → Bool,AtG wr w2.heap.size 38 (cellsOf F) ∧ AtG wr w.heap.size 38 (setC 0 0 0 0) ∧ Only (fun k => k = g) w wr ∧ ((∃ q k : Nat,AtG wr g 114 (rdr s (q : Int) o 0 x) ∧ q ≤ s.size ∧ s.size - q < k ∧ R = (clsF s k F q).map (negF true)) ∨ (∃ (cc : Int) (yy : Nat) (pb : Int),cc ≠ 0 ∧ AtG wr g 114 (rdr s pb o cc (yy : Int)) ∧ R = .no cc yy))) (fun wr => leftR s g wr)
 case atStart =>
  refine ⟨F0,AtG.new w2 _ _,HR2.out.alloc _,HO2.out.al _,?_⟩
  cases hif : itemF s p0 with
  | ok f q =>
   have hS := HS.out;have hq := HF0.out
   rw [hif] at hS
   obtain rfl := hq f q hif
   have hin := itemF_in s p0 HP.out
   rw [hif] at hin
   exact .inl ⟨q,s.size + 1,AtG.alloc hS _,hin.2,by omega,by rw [HRX.out,hif];rfl⟩
  | no cc yy =>
   have hS := HS.out
   rw [hif] at hS
   obtain ⟨pb,hS⟩ := hS
   have hin := itemF_in s p0 HP.out
   rw [hif] at hin
   exact .inr ⟨cc,yy,pb,by have := hin.1;omega,AtG.alloc hS _,by rw [HRX.out,hif];rfl⟩
 case round =>
  obtain ⟨F,hs9,hr9,ho9,⟨q,k,ha9,hq9,hk9,hx9⟩ | ⟨cc,yy,pb,hcc,ha9,hx9⟩⟩ := hrel
  ·have HS9 := Lib.hid hs9;have HR9 := Lib.hid hr9;have HO9 := Lib.hid ho9;have HA9 := Lib.hid ha9
   have HQ := Lib.hid hq9;have HK := Lib.hid hk9;have HX9 := Lib.hid hx9
   clear hs9 hr9 ho9 hq9 hk9 hx9
   have z3 : wr.cell? ⟨g,3,none⟩ = some (.int .i64 0) := HA9.out.cell 3 _ rfl
   have HPK := Lib.hid (peek_any g s q o x _ HA9.out)
   obtain ⟨k',rfl⟩ : ∃ k',k = k' + 1 := ⟨k - 1,by have := HK.out;omega⟩
   have hcf : clsF s (k' + 1) F q = if ch s q = 93 then .ok F (q + 1) else match itemF s q with | .ok g q => clsF s k' (fun y => F y || g y) q | .no c x => .no c x := rfl
   clear ha9
   by_cases h93 : ch s q = 93
   ·rw [if_pos h93] at hcf
    have HX : Hid (R = .ok (negF true F) (q + 1)) := Lib.hid (by rw [HX9.out,hcf];rfl)
    have hN := fun w h => next_ch g s q o x w h (by omega) (by have := HM.out;omega)
    rw [h93] at HPK hN
    have HN := Lib.hid hN
    clear hcf hN h93
    go_wp2_with fail
    refine (HPK.out).mono ?_
    rintro e9 w3 ⟨rfl,hb⟩
    have HA3 := Lib.hid (HA9.out.below hb);have HR3 := Lib.hid (HR9.out.below hb);have HO3 := Lib.hid (HO9.out.tb hb);have HS3 := Lib.hid (HS9.out.below hb)
    clear hb z3
    go_wp2_with fail
    refine (HN.out _ HA3.out).mono ?_
    rintro e9 wq ⟨rfl,hA,hO⟩
    have HAq := Lib.hid hA;have HRq := Lib.hid (HR3.out.only hO HG.out);have HOq := Lib.hid (HO3.out.tr hO);have HSq := Lib.hid (HS3.out.only hO HGS.out.2.1)
    clear hA hO
    have d0 := (HRq.out).cell 0 _ rfl;have d1 := (HRq.out).cell 1 _ rfl;have d2 := (HRq.out).cell 2 _ rfl;have d3 := (HRq.out).cell 3 _ rfl
    have f0 := (HRq.out).frozen 0;have f1 := (HRq.out).frozen 1;have f2 := (HRq.out).frozen 2;have f3 := (HRq.out).frozen 3
    have e0 : wq.cell? ⟨w2.heap.size,0,none⟩ = some (.int .u64 ((wd F 0 : Nat) : Int)) := HSq.out.cell 0 _ rfl
    have e1 : wq.cell? ⟨w2.heap.size,1,none⟩ = some (.int .u64 ((wd F 1 : Nat) : Int)) := HSq.out.cell 1 _ rfl
    have e2 : wq.cell? ⟨w2.heap.size,2,none⟩ = some (.int .u64 ((wd F 2 : Nat) : Int)) := HSq.out.cell 2 _ rfl
    have e3 : wq.cell? ⟨w2.heap.size,3,none⟩ = some (.int .u64 ((wd F 3 : Nat) : Int)) := HSq.out.cell 3 _ rfl
    go_wp2_with fail
    refine (refNot_any F _).mono ?_
    rintro e9 wn ⟨rfl,hb⟩
    have HAn := Lib.hid (HAq.out.below hb);have HRn := Lib.hid (HRq.out.below hb);have HOn := Lib.hid (HOq.out.tb hb)
    clear hb d0 d1 d2 d3 f0 f1 f2 f3 e0 e1 e2 e3
    have d0 := (HRn.out).cell 0 _ rfl;have d1 := (HRn.out).cell 1 _ rfl;have d2 := (HRn.out).cell 2 _ rfl;have d3 := (HRn.out).cell 3 _ rfl
    have f0 := (HRn.out).frozen 0;have f1 := (HRn.out).frozen 1;have f2 := (HRn.out).frozen 2;have f3 := (HRn.out).frozen 3
    unfold setOf
    go_wp2_with fail
    refine bodyPost_ret (v := setOf (fun x => !F x)) (by simp [results,Tryz.results109,go_sem,d0,d1,d2,d3];try rfl) rfl ⟨_,rfl,?_,?_,?_⟩
    ·rw [HX.out];exact putS_far HAn.out HG2.out _
    ·exact HOn.out.pS _ _ (.inr (Nat.le_refl _))
    ·intro a b h;rw [HX.out] at h;injection h
   ·rw [if_neg h93] at hcf
    have e93 : (ch s q == 93) = false := by rw [beq_eq_false_iff_ne];exact h93
    have HCF := Lib.hid hcf
    generalize ch s q = c at *
    clear hcf
    go_wp2_with fail
    refine (HPK.out).mono ?_
    rintro e9 wx9 ⟨rfl,hb⟩
    have HA9' := Lib.hid (HA9.out.below hb);have HR9' := Lib.hid (HR9.out.below hb);have HO9' := Lib.hid (HO9.out.tb hb);have HS9' := Lib.hid (HS9.out.below hb)
    have HLE := Lib.hid (leftR_ok HA9.out)
    clear hb z3 HA9 HR9 HO9 HS9
    have HA9 := HA9';have HR9 := HR9';have HO9 := HO9';have HS9 := HS9'
    clear HA9' HR9' HO9' HS9'
    go_upto_region 6 with (fail)
    have hin := itemF_in s q HQ.out
    cases hif : itemF s q with
    | ok G r =>
     rw [hif] at hin
     have HIF := Lib.hid hif;have HIN := Lib.hid hin
     clear hif hin h93 e93
     refine RgX.start (by kernel_rfl) [(2,fun w5 w6 => Only (fun k => k = g) w5 w6),(4,fun w5 w6 => ∃ f,w6 = putS w5 w2.heap.size f)] [⟨fun w5 => AtG w5 w.heap.size 38 (setC 0 0 0 0) ∧ Only (fun k => k = g) w w5,none⟩,⟨fun w5 => AtG w5 g 114 (rdr s (q : Int) o 0 x),some 2⟩,⟨fun w5 => AtG w5 w2.heap.size 38 (cellsOf F),some 4⟩] ⟨⟨fun _ _ h hb => ⟨h.1.below hb,h.2.tb hb⟩,⟨fun _ _ _ _ => (fun w5 w6 h he => ⟨h.1.only he HG.out,h.2.tr he⟩),fun _ _ _ _ => (fun w5 w6 h he => by obtain ⟨f,rfl⟩ := he;exact ⟨putS_far h.1 HGS.out.1 _,h.2.pS _ _ (.inr HGS.out.2.2.1)⟩),trivial⟩⟩,⟨fun _ _ h hb => h.below hb,⟨fun _ h _ _ => absurd rfl h,fun _ _ h _ => absurd ⟨2,1,rfl,rfl⟩ h,trivial⟩⟩,⟨fun _ _ h hb => h.below hb,⟨fun _ _ _ _ => (fun w5 w6 h he => h.only he HGS.out.2.1),fun _ h _ _ => absurd rfl h,trivial⟩⟩,trivial⟩ (by kernel_rfl) (by kernel_rfl) ⟨⟨HR9.out.drew,HO9.out.drew⟩,HA9.out.drew,HS9.out.drew,trivial⟩ ?_
     show RgX.Build _ _ _ _ _ _ 0 [_,_,_,_,_] []
     refine RgX.cp 1 rfl rfl (by intro ax wx hk Kx hK;have k4 := hk.base 4 _ rfl rfl;have hL := hk.fact 0 0 _ rfl rfl;(try dsimp only at hL);have hs := hk.fact 2 1 _ rfl rfl;(try dsimp only at hs);clear hk;have z0 : wx.cell? ⟨w2.heap.size,0,none⟩ = some (.int .u64 ((wd F 0 : Nat) : Int)) := hs.cell 0 _ rfl;have z1 : wx.cell? ⟨w2.heap.size,1,none⟩ = some (.int .u64 ((wd F 1 : Nat) : Int)) := hs.cell 1 _ rfl;have z2 : wx.cell? ⟨w2.heap.size,2,none⟩ = some (.int .u64 ((wd F 2 : Nat) : Int)) := hs.cell 2 _ rfl;have z3 : wx.cell? ⟨w2.heap.size,3,none⟩ = some (.int .u64 ((wd F 3 : Nat) : Int)) := hs.cell 3 _ rfl;go_simp;exact hK _ _ (fun h => by cases h) (fun _ _ => rfl) (Below.refl _ _)) ?_
     refine RgX.cp 2 rfl rfl (by intro ax wx hk Kx hK;have k0 := hk.base 0 _ rfl rfl;have hL := hk.fact 0 0 _ rfl rfl;(try dsimp only at hL);have hg := hk.fact 1 1 _ rfl rfl;(try dsimp only at hg);have hs := hk.fact 2 1 _ rfl rfl;(try dsimp only at hs);clear hk;go_simp;exact hK _ _ (fun h => by cases h) (fun _ _ => rfl) (Below.refl _ _)) ?_
     refine RgX.build_cons (m := 3) (r := (⟨fun v _ w5 => v = setOf G ∧ StR s g o x (.ok G r) w5,none,none⟩ : RgX.Rl)) (RgX.one_plain rfl (by intro ax wx hk Kx hK;have k29 := hk.e 0 1 29 rfl rfl rfl;have hL := hk.fact 0 0 _ rfl rfl;(try dsimp only at hL);have hg := hk.fact 1 0 _ rfl rfl;(try dsimp only at hg);have hs := hk.fact 2 1 _ rfl rfl;(try dsimp only at hs);clear hk;go_simp;refine (item_any g s q o x _ hg HQ.out HM.out).mono ?_;rintro e w' ⟨G',rfl,hS5,hO5,hq5⟩;(rw [HIF.out] at hS5 hq5;obtain rfl := hq5 G r rfl;exact hK _ _ (fun h => by cases h) (fun _ _ => ⟨rfl,hS5⟩) hO5))) ?_ rfl (RgX.keep_r (fun _ _ _ _ h hb => ⟨h.1,StR.below h.2 hb⟩) (fun _ _ => ⟨fun h _ _ _ => absurd rfl h,fun _ _ _ _ => (fun w5 w6 h he => by obtain ⟨f,rfl⟩ := he;exact ⟨h.1,StR.far h.2 HGS.out.2.2.2 _⟩),trivial⟩)) (fun _ h => by cases h)
     refine RgX.cp 4 rfl rfl (by intro ax wx hk Kx hK;have k28 := hk.e 0 0 28 rfl rfl rfl;obtain ⟨v30,k30,h30⟩ := hk.dep 0 2 30 _ rfl rfl rfl;(first | (replace h30 := h30 9 undef rfl rfl;first | (cases (h30 : v30 = _)) | (obtain ⟨rfl,h30⟩ := h30) | skip) | skip);have hL := hk.fact 0 0 _ rfl rfl;(try dsimp only at hL);have hs := hk.fact 2 1 _ rfl rfl;(try dsimp only at hs);clear hk;go_simp;refine (refOr_any F G _).mono ?_;rintro e w' ⟨rfl,hb⟩;refine hK _ _ (fun h => by cases h) (fun _ _ => ?_) hb;apply RgX.mk) ?_
     refine RgX.build_cons (m := 5) (r := (⟨fun _ _ w5 => AtG w5 w2.heap.size 38 (cellsOf fun x => F x || G x),none,none⟩ : RgX.Rl)) (RgX.one_plain rfl (by intro ax wx hk Kx hK;have k4 := hk.base 4 _ rfl rfl;have k31 := hk.e 0 3 31 rfl rfl rfl;have hL := hk.fact 0 0 _ rfl rfl;(try dsimp only at hL);have hs := hk.fact 2 0 _ rfl rfl;(try dsimp only at hs);clear hk;(have d0 : wx.cell? ⟨w2.heap.size,0,none⟩ = some (.int .u64 ((wd F 0 : Nat) : Int)) := hs.cell 0 _ rfl;have d1 : wx.cell? ⟨w2.heap.size,1,none⟩ = some (.int .u64 ((wd F 1 : Nat) : Int)) := hs.cell 1 _ rfl;have d2 : wx.cell? ⟨w2.heap.size,2,none⟩ = some (.int .u64 ((wd F 2 : Nat) : Int)) := hs.cell 2 _ rfl;have d3 : wx.cell? ⟨w2.heap.size,3,none⟩ = some (.int .u64 ((wd F 3 : Nat) : Int)) := hs.cell 3 _ rfl;have f0 := hs.frozen 0;have f1 := hs.frozen 1;have f2 := hs.frozen 2;have f3 := hs.frozen 3;unfold setOf at k31;go_simp;exact hK undef _ (fun _ => rfl) (fun u hu => putS_at hs _) ⟨_,rfl⟩))) ?_ rfl (RgX.keep_r (fun _ _ _ _ h hb => h.below hb) (fun _ _ => ⟨fun _ _ _ h => absurd ⟨1,rfl⟩ h,fun h _ _ _ => absurd rfl h,trivial⟩)) (fun _ h => by cases h)
     refine RgX.build_end fun wx hj => ?_
     have hL := hj 0 _ rfl rfl
     clear hj
     iterate 2 refine RgX.fin_eq rfl ?_
     first | refine RgX.fin_eq rfl ?_ | refine RgX.fin_any rfl fun v30 h30 => ?_
     refine RgX.fin_eq rfl ?_
     refine RgX.fin_none rfl fun s4 => ?_
     refine RgX.fin_nil ?_
     simp only [List.set_cons_zero,List.set_cons_succ]
     have hS5 := (h30 rfl undef rfl).2
     have hs5 := s4 rfl undef rfl
     clear h30 s4
     have HL := Lib.hid hL;have H5 := Lib.hid hS5;have H6 := Lib.hid hs5
     clear hL hS5 hs5
     go_wp2_with fail
     refine ⟨⟨_,H6.out,HL.out.1,HL.out.2,.inl ⟨r,k',H5.out,HIN.out.2,by have := HIN.out.1;have := HIN.out.2;have := HK.out;omega,by rw [HX9.out,HCF.out,HIF.out]⟩⟩,?_⟩
     rw [leftR_ok H5.out,HLE.out]
     have := HIN.out.1;have := HIN.out.2;omega
    | no cc yy =>
     rw [hif] at hin
     have HIF := Lib.hid hif;have HIN := Lib.hid hin
     clear hif hin h93 e93
     refine RgX.start (by kernel_rfl) [(2,fun w5 w6 => Only (fun k => k = g) w5 w6),(4,fun w5 w6 => ∃ f,w6 = putS w5 w2.heap.size f)] [⟨fun w5 => AtG w5 w.heap.size 38 (setC 0 0 0 0) ∧ Only (fun k => k = g) w w5,none⟩,⟨fun w5 => AtG w5 g 114 (rdr s (q : Int) o 0 x),some 2⟩,⟨fun w5 => AtG w5 w2.heap.size 38 (cellsOf F),some 4⟩] ⟨⟨fun _ _ h hb => ⟨h.1.below hb,h.2.tb hb⟩,⟨fun _ _ _ _ => (fun w5 w6 h he => ⟨h.1.only he HG.out,h.2.tr he⟩),fun _ _ _ _ => (fun w5 w6 h he => by obtain ⟨f,rfl⟩ := he;exact ⟨putS_far h.1 HGS.out.1 _,h.2.pS _ _ (.inr HGS.out.2.2.1)⟩),trivial⟩⟩,⟨fun _ _ h hb => h.below hb,⟨fun _ h _ _ => absurd rfl h,fun _ _ h _ => absurd ⟨2,1,rfl,rfl⟩ h,trivial⟩⟩,⟨fun _ _ h hb => h.below hb,⟨fun _ _ _ _ => (fun w5 w6 h he => h.only he HGS.out.2.1),fun _ h _ _ => absurd rfl h,trivial⟩⟩,trivial⟩ (by kernel_rfl) (by kernel_rfl) ⟨⟨HR9.out.drew,HO9.out.drew⟩,HA9.out.drew,HS9.out.drew,trivial⟩ ?_
     show RgX.Build _ _ _ _ _ _ 0 [_,_,_,_,_] []
     refine RgX.cp 1 rfl rfl (by intro ax wx hk Kx hK;have k4 := hk.base 4 _ rfl rfl;have hL := hk.fact 0 0 _ rfl rfl;(try dsimp only at hL);have hs := hk.fact 2 1 _ rfl rfl;(try dsimp only at hs);clear hk;have z0 : wx.cell? ⟨w2.heap.size,0,none⟩ = some (.int .u64 ((wd F 0 : Nat) : Int)) := hs.cell 0 _ rfl;have z1 : wx.cell? ⟨w2.heap.size,1,none⟩ = some (.int .u64 ((wd F 1 : Nat) : Int)) := hs.cell 1 _ rfl;have z2 : wx.cell? ⟨w2.heap.size,2,none⟩ = some (.int .u64 ((wd F 2 : Nat) : Int)) := hs.cell 2 _ rfl;have z3 : wx.cell? ⟨w2.heap.size,3,none⟩ = some (.int .u64 ((wd F 3 : Nat) : Int)) := hs.cell 3 _ rfl;go_simp;exact hK _ _ (fun h => by cases h) (fun _ _ => rfl) (Below.refl _ _)) ?_
     refine RgX.cp 2 rfl rfl (by intro ax wx hk Kx hK;have k0 := hk.base 0 _ rfl rfl;have hL := hk.fact 0 0 _ rfl rfl;(try dsimp only at hL);have hg := hk.fact 1 1 _ rfl rfl;(try dsimp only at hg);have hs := hk.fact 2 1 _ rfl rfl;(try dsimp only at hs);clear hk;go_simp;exact hK _ _ (fun h => by cases h) (fun _ _ => rfl) (Below.refl _ _)) ?_
     refine RgX.build_cons (m := 3) (r := (⟨fun v _ w5 => (∃ G',v = setOf G') ∧ StR s g o x (.no cc yy : Re Nat) w5,none,none⟩ : RgX.Rl)) (RgX.one_plain rfl (by intro ax wx hk Kx hK;have k29 := hk.e 0 1 29 rfl rfl rfl;have hL := hk.fact 0 0 _ rfl rfl;(try dsimp only at hL);have hg := hk.fact 1 0 _ rfl rfl;(try dsimp only at hg);have hs := hk.fact 2 1 _ rfl rfl;(try dsimp only at hs);clear hk;go_simp;refine (item_any g s q o x _ hg HQ.out HM.out).mono ?_;rintro e w' ⟨G',rfl,hS5,hO5,hq5⟩;(rw [HIF.out] at hS5;exact hK _ _ (fun h => by cases h) (fun _ _ => ⟨⟨G',rfl⟩,hS5⟩) hO5))) ?_ rfl (RgX.keep_r (fun _ _ _ _ h hb => ⟨h.1,StR.below h.2 hb⟩) (fun _ _ => ⟨fun h _ _ _ => absurd rfl h,fun _ _ _ _ => (fun w5 w6 h he => by obtain ⟨f,rfl⟩ := he;exact ⟨h.1,StR.far h.2 HGS.out.2.2.2 _⟩),trivial⟩)) (fun _ h => by cases h)
     refine RgX.build_cons (m := 4) (r := (⟨fun v _ _ => ∃ G',v = setOf G',none,none⟩ : RgX.Rl)) (RgX.one_plain rfl (by intro ax wx hk Kx hK;have k28 := hk.e 0 0 28 rfl rfl rfl;obtain ⟨v30,k30,h30⟩ := hk.dep 0 2 30 _ rfl rfl rfl;(first | (replace h30 := h30 9 undef rfl rfl;first | (cases (h30 : v30 = _)) | (obtain ⟨rfl,h30⟩ := h30) | skip) | skip);have hL := hk.fact 0 0 _ rfl rfl;(try dsimp only at hL);have hs := hk.fact 2 1 _ rfl rfl;(try dsimp only at hs);clear hk;obtain ⟨⟨G',rfl⟩,hS6⟩ := h30;go_simp;refine (refOr_any F G' _).mono ?_;rintro e w' ⟨rfl,hb⟩;exact hK _ _ (fun h => by cases h) (fun _ _ => ⟨_,rfl⟩) hb)) ?_ rfl (RgX.keep_r (fun _ _ _ _ h hb => h) (fun _ _ => ⟨fun _ _ _ h => absurd ⟨1,rfl⟩ h,fun _ _ _ _ => (fun w5 w6 h he => h),trivial⟩)) (fun _ h => by cases h)
     refine RgX.build_cons (m := 5) (r := (⟨fun _ _ w5 => ∃ G',AtG w5 w2.heap.size 38 (cellsOf G'),none,none⟩ : RgX.Rl)) (RgX.one_plain rfl (by intro ax wx hk Kx hK;have k4 := hk.base 4 _ rfl rfl;obtain ⟨v31,k31,h31⟩ := hk.dep 0 3 31 _ rfl rfl rfl;(first | (replace h31 := h31 9 undef rfl rfl;first | (cases (h31 : v31 = _)) | (obtain ⟨rfl,h31⟩ := h31) | skip) | skip);have hL := hk.fact 0 0 _ rfl rfl;(try dsimp only at hL);have hs := hk.fact 2 0 _ rfl rfl;(try dsimp only at hs);clear hk;obtain ⟨G',rfl⟩ := h31;(have d0 : wx.cell? ⟨w2.heap.size,0,none⟩ = some (.int .u64 ((wd F 0 : Nat) : Int)) := hs.cell 0 _ rfl;have d1 : wx.cell? ⟨w2.heap.size,1,none⟩ = some (.int .u64 ((wd F 1 : Nat) : Int)) := hs.cell 1 _ rfl;have d2 : wx.cell? ⟨w2.heap.size,2,none⟩ = some (.int .u64 ((wd F 2 : Nat) : Int)) := hs.cell 2 _ rfl;have d3 : wx.cell? ⟨w2.heap.size,3,none⟩ = some (.int .u64 ((wd F 3 : Nat) : Int)) := hs.cell 3 _ rfl;have f0 := hs.frozen 0;have f1 := hs.frozen 1;have f2 := hs.frozen 2;have f3 := hs.frozen 3;unfold setOf at k31;go_simp;exact hK undef _ (fun _ => rfl) (fun u hu => ⟨_,putS_at hs _⟩) ⟨_,rfl⟩))) ?_ rfl (RgX.keep_r (fun _ _ _ _ h hb => by obtain ⟨G',h⟩ := h;exact ⟨G',h.below hb⟩) (fun _ _ => ⟨fun _ _ _ h => absurd ⟨1,rfl⟩ h,fun h _ _ _ => absurd rfl h,trivial⟩)) (fun _ h => by cases h)
     refine RgX.build_end fun wx hj => ?_
     have hL := hj 0 _ rfl rfl
     clear hj
     iterate 2 refine RgX.fin_eq rfl ?_
     first | refine RgX.fin_eq rfl ?_ | refine RgX.fin_any rfl fun v30 h30 => ?_
     first | refine RgX.fin_eq rfl ?_ | refine RgX.fin_any rfl fun v31 h31 => ?_
     refine RgX.fin_none rfl fun s4 => ?_
     refine RgX.fin_nil ?_
     simp only [List.set_cons_zero,List.set_cons_succ]
     have hS5 := (h30 rfl undef rfl).2
     have hs5 := s4 rfl undef rfl
     clear h30 s4 h31
     obtain ⟨pb,hS5⟩ := hS5
     obtain ⟨G',hs5⟩ := hs5
     have HL := Lib.hid hL;have H5 := Lib.hid hS5;have H6 := Lib.hid hs5
     have hcc : cc ≠ 0 := by have := HIN.out.1;omega
     have HCC := Lib.hid hcc
     clear hL hS5 hs5 hcc
     go_wp2_with fail
     refine ⟨⟨G',H6.out,HL.out.1,HL.out.2,.inr ⟨cc,yy,pb,HCC.out,H5.out,by rw [HX9.out,HCF.out,HIF.out];rfl⟩⟩,?_⟩
     rw [leftR_no H5.out HCC.out,HLE.out]
     have := HQ.out;omega
  ·have HS9 := Lib.hid hs9;have HR9 := Lib.hid hr9;have HO9 := Lib.hid ho9;have HA9 := Lib.hid ha9;have HX := Lib.hid hx9;have HCC := Lib.hid hcc
   have e0 : (cc == 0) = false := by rw [beq_eq_false_iff_ne];exact hcc
   clear hs9 hr9 ho9 ha9 hx9 hcc
   have z3 : wr.cell? ⟨g,3,none⟩ = some (.int .i64 cc) := HA9.out.cell 3 _ rfl
   go_wp2_with fail
   refine (next_bad g s pb o cc _ _ HA9.out HCC.out).mono ?_
   rintro e9 wq ⟨rfl,hb⟩
   have HAq := Lib.hid (HA9.out.below hb);have HRq := Lib.hid (HR9.out.below hb);have HOq := Lib.hid (HO9.out.tb hb);have HSq := Lib.hid (HS9.out.below hb)
   clear hb z3 e0
   have d0 := (HRq.out).cell 0 _ rfl;have d1 := (HRq.out).cell 1 _ rfl;have d2 := (HRq.out).cell 2 _ rfl;have d3 := (HRq.out).cell 3 _ rfl
   have f0 := (HRq.out).frozen 0;have f1 := (HRq.out).frozen 1;have f2 := (HRq.out).frozen 2;have f3 := (HRq.out).frozen 3
   have e0 : wq.cell? ⟨w2.heap.size,0,none⟩ = some (.int .u64 ((wd F 0 : Nat) : Int)) := HSq.out.cell 0 _ rfl
   have e1 : wq.cell? ⟨w2.heap.size,1,none⟩ = some (.int .u64 ((wd F 1 : Nat) : Int)) := HSq.out.cell 1 _ rfl
   have e2 : wq.cell? ⟨w2.heap.size,2,none⟩ = some (.int .u64 ((wd F 2 : Nat) : Int)) := HSq.out.cell 2 _ rfl
   have e3 : wq.cell? ⟨w2.heap.size,3,none⟩ = some (.int .u64 ((wd F 3 : Nat) : Int)) := HSq.out.cell 3 _ rfl
   go_wp2_with fail
   refine (refNot_any F _).mono ?_
   rintro e9 wn ⟨rfl,hb⟩
   have HAn := Lib.hid (HAq.out.below hb);have HRn := Lib.hid (HRq.out.below hb);have HOn := Lib.hid (HOq.out.tb hb)
   clear hb d0 d1 d2 d3 f0 f1 f2 f3 e0 e1 e2 e3
   have d0 := (HRn.out).cell 0 _ rfl;have d1 := (HRn.out).cell 1 _ rfl;have d2 := (HRn.out).cell 2 _ rfl;have d3 := (HRn.out).cell 3 _ rfl
   have f0 := (HRn.out).frozen 0;have f1 := (HRn.out).frozen 1;have f2 := (HRn.out).frozen 2;have f3 := (HRn.out).frozen 3
   unfold setOf
   go_wp2_with fail
   refine bodyPost_ret (v := setOf (fun x => !F x)) (by simp [results,Tryz.results109,go_sem,d0,d1,d2,d3];try rfl) rfl ⟨_,rfl,?_,?_,?_⟩
   ·rw [HX.out];exact ⟨pb,putS_far HAn.out HG2.out _⟩
   ·exact HOn.out.pS _ _ (.inr (Nat.le_refl _))
   ·intro a b h;rw [HX.out] at h;cases h
set_option maxRecDepth 100000 in
set_option maxHeartbeats 1600000 in
theorem class_pos (g : Nat) (s : ByteArray) (p : Nat) (o x : Int) (w : World) (h : AtG w g 114 (rdr s p o 0 x)) (hp : p ≤ s.size) (hm : s.size ≤ 1000) (h94 : ch s p ≠ 94) :
  Calls Tryz.prog 109 #[.pointer (some ⟨g,0,none⟩)] w fun e w' => ∃ F : Nat → Bool,e = .returned (setOf F) ∧ StR s g o x (classF s p) w' ∧ Only (fun k => k = g) w w' ∧ ∀ f q,classF s p = .ok f q → F = f := by
 have HM := Lib.hid hm
 have HLT := Lib.hid h.lt
 have HR0 := Lib.hid (AtG.new w 38 (setC 0 0 0 0))
 have HA0 := Lib.hid (h.alloc (.cells (setC 0 0 0 0) 38))
 have HO0 := Lib.hid ((Only.refl (S := fun k => k = g) w).al (.cells (setC 0 0 0 0) 38))
 have HG : Hid (w.heap.size ≠ g) := Lib.hid (by have := h.lt;omega)
 have HG2 : Hid (g ≠ w.heap.size) := Lib.hid (by have := h.lt;omega)
 have HPK0 := Lib.hid (peek_any g s p o x _ HA0.out)
 obtain ⟨R,hR⟩ : ∃ R,R = classF s p := ⟨_,rfl⟩
 rw [← hR]
 have hRX : R = clsE s false (itemF s p) := by rw [hR];unfold classF;rw [if_neg h94]
 obtain ⟨p0,hp0⟩ : ∃ p0,p0 = p := ⟨_,rfl⟩
 have hA1 := HA0.out
 rw [← hp0] at hRX hA1
 have HP : Hid (p0 ≤ s.size) := Lib.hid (by omega)
 have HRX := Lib.hid hRX
 have HA0 := Lib.hid hA1
 have e94 : (ch s p == 94) = false := by rw [beq_eq_false_iff_ne];exact h94
 clear hR hRX h hp hm hA1 hp0
 generalize ch s p = c at *
 go_enter Tryz.func109,Tryz.ntmps109
 go_wp2_with fail
 refine (HPK0.out).mono ?_
 rintro e9 w1 ⟨rfl,hb⟩
 have HA := Lib.hid (HA0.out.below hb);have HR := Lib.hid (HR0.out.below hb);have HO := Lib.hid (HO0.out.tb hb)
 clear hb
 clear h94
 go_wp2_with fail
 refine (item_any g s p0 o x _ HA.out HP.out HM.out).mono ?_
 rintro e9 w2 ⟨F0,rfl,hS,hO2,hq⟩
 have HR2 := Lib.hid (HR.out.only hO2 HG.out)
 have HO2 := Lib.hid (HO.out.tr hO2)
 have HS := Lib.hid hS;have HF0 := Lib.hid hq
 clear hS hO2 hq HR HO HA
 have HGS : Hid (w.heap.size ≠ w2.heap.size ∧ w2.heap.size ≠ g ∧ w.heap.size ≤ w2.heap.size ∧ g ≠ w2.heap.size) := Lib.hid (by
  have h1 := HR2.out.lt
  have h2 := HO2.out.size
  have h3 := HLT.out
  omega)
 unfold setOf
 go_wp2_with fail
 go_loopw [] (fun wr => ∃ F : Nat → Bool,AtG wr w2.heap.size 38 (cellsOf F) ∧ AtG wr w.heap.size 38 (setC 0 0 0 0) ∧ Only (fun k => k = g) w wr ∧ ((∃ q k : Nat,AtG wr g 114 (rdr s (q : Int) o 0 x) ∧ q ≤ s.size ∧ s.size - q < k ∧ R = (clsF s k F q).map (negF false)) ∨ (∃ (cc : Int) (yy : Nat) (pb : Int),cc ≠ 0 ∧ AtG wr g 114 (rdr s pb o cc (yy : Int)) ∧ R = .no cc yy))) (fun wr => leftR s g wr)
 case atStart =>
  refine ⟨F0,AtG.new w2 _ _,HR2.out.alloc _,HO2.out.al _,?_⟩
  cases hif : itemF s p0 with
  | ok f q =>
   have hS := HS.out;have hq := HF0.out
   rw [hif] at hS
   obtain rfl := hq f q hif
   have hin := itemF_in s p0 HP.out
   rw [hif] at hin
   exact .inl ⟨q,s.size + 1,AtG.alloc hS _,hin.2,by omega,by rw [HRX.out,hif];rfl⟩
  | no cc yy =>
   have hS := HS.out
   rw [hif] at hS
   obtain ⟨pb,hS⟩ := hS
   have hin := itemF_in s p0 HP.out
   rw [hif] at hin
   exact .inr ⟨cc,yy,pb,by have := hin.1;omega,AtG.alloc hS _,by rw [HRX.out,hif];rfl⟩
 case round =>
  obtain ⟨F,hs9,hr9,ho9,⟨q,k,ha9,hq9,hk9,hx9⟩ | ⟨cc,yy,pb,hcc,ha9,hx9⟩⟩ := hrel
  ·have HS9 := Lib.hid hs9;have HR9 := Lib.hid hr9;have HO9 := Lib.hid ho9;have HA9 := Lib.hid ha9
   have HQ := Lib.hid hq9;have HK := Lib.hid hk9;have HX9 := Lib.hid hx9
   clear hs9 hr9 ho9 hq9 hk9 hx9
   have z3 : wr.cell? ⟨g,3,none⟩ = some (.int .i64 0) := HA9.out.cell 3 _ rfl
   have HPK := Lib.hid (peek_any g s q o x _ HA9.out)
   obtain ⟨k',rfl⟩ : ∃ k',k = k' + 1 := ⟨k - 1,by have := HK.out;omega⟩
   have hcf : clsF s (k' + 1) F q = if ch s q = 93 then .ok F (q + 1) else match itemF s q with | .ok g q => clsF s k' (fun y => F y || g y) q | .no c x => .no c x := rfl
   clear ha9
   by_cases h93 : ch s q = 93
   ·rw [if_pos h93] at hcf
    have HX : Hid (R = .ok (negF false F) (q + 1)) := Lib.hid (by rw [HX9.out,hcf];rfl)
    have hN := fun w h => next_ch g s q o x w h (by omega) (by have := HM.out;omega)
    rw [h93] at HPK hN
    have HN := Lib.hid hN
    clear hcf hN h93
    go_wp2_with fail
    refine (HPK.out).mono ?_
    rintro e9 w3 ⟨rfl,hb⟩
    have HA3 := Lib.hid (HA9.out.below hb);have HR3 := Lib.hid (HR9.out.below hb);have HO3 := Lib.hid (HO9.out.tb hb);have HS3 := Lib.hid (HS9.out.below hb)
    clear hb z3
    go_wp2_with fail
    refine (HN.out _ HA3.out).mono ?_
    rintro e9 wq ⟨rfl,hA,hO⟩
    have HAq := Lib.hid hA;have HRq := Lib.hid (HR3.out.only hO HG.out);have HOq := Lib.hid (HO3.out.tr hO);have HSq := Lib.hid (HS3.out.only hO HGS.out.2.1)
    clear hA hO
    have d0 := (HRq.out).cell 0 _ rfl;have d1 := (HRq.out).cell 1 _ rfl;have d2 := (HRq.out).cell 2 _ rfl;have d3 := (HRq.out).cell 3 _ rfl
    have f0 := (HRq.out).frozen 0;have f1 := (HRq.out).frozen 1;have f2 := (HRq.out).frozen 2;have f3 := (HRq.out).frozen 3
    have e0 : wq.cell? ⟨w2.heap.size,0,none⟩ = some (.int .u64 ((wd F 0 : Nat) : Int)) := HSq.out.cell 0 _ rfl
    have e1 : wq.cell? ⟨w2.heap.size,1,none⟩ = some (.int .u64 ((wd F 1 : Nat) : Int)) := HSq.out.cell 1 _ rfl
    have e2 : wq.cell? ⟨w2.heap.size,2,none⟩ = some (.int .u64 ((wd F 2 : Nat) : Int)) := HSq.out.cell 2 _ rfl
    have e3 : wq.cell? ⟨w2.heap.size,3,none⟩ = some (.int .u64 ((wd F 3 : Nat) : Int)) := HSq.out.cell 3 _ rfl
    go_wp2_with fail
    refine bodyPost_ret (v := setOf F) (by simp [results,Tryz.results109,go_sem,d0,d1,d2,d3];try rfl) rfl ⟨_,rfl,?_,?_,?_⟩
    ·rw [HX.out];exact putS_far HAq.out HG2.out _
    ·exact HOq.out.pS _ _ (.inr (Nat.le_refl _))
    ·intro a b h;rw [HX.out] at h;injection h
   ·rw [if_neg h93] at hcf
    have e93 : (ch s q == 93) = false := by rw [beq_eq_false_iff_ne];exact h93
    have HCF := Lib.hid hcf
    generalize ch s q = c at *
    clear hcf
    go_wp2_with fail
    refine (HPK.out).mono ?_
    rintro e9 wx9 ⟨rfl,hb⟩
    have HA9' := Lib.hid (HA9.out.below hb);have HR9' := Lib.hid (HR9.out.below hb);have HO9' := Lib.hid (HO9.out.tb hb);have HS9' := Lib.hid (HS9.out.below hb)
    have HLE := Lib.hid (leftR_ok HA9.out)
    clear hb z3 HA9 HR9 HO9 HS9
    have HA9 := HA9';have HR9 := HR9';have HO9 := HO9';have HS9 := HS9'
    clear HA9' HR9' HO9' HS9'
    go_upto_region 6 with (fail)
    have hin := itemF_in s q HQ.out
    cases hif : itemF s q with
    | ok G r =>
     rw [hif] at hin
     have HIF := Lib.hid hif;have HIN := Lib.hid hin
     clear hif hin h93 e93
     refine RgX.start (by kernel_rfl) [(2,fun w5 w6 => Only (fun k => k = g) w5 w6),(4,fun w5 w6 => ∃ f,w6 = putS w5 w2.heap.size f)] [⟨fun w5 => AtG w5 w.heap.size 38 (setC 0 0 0 0) ∧ Only (fun k => k = g) w w5,none⟩,⟨fun w5 => AtG w5 g 114 (rdr s (q : Int) o 0 x),some 2⟩,⟨fun w5 => AtG w5 w2.heap.size 38 (cellsOf F),some 4⟩] ⟨⟨fun _ _ h hb => ⟨h.1.below hb,h.2.tb hb⟩,⟨fun _ _ _ _ => (fun w5 w6 h he => ⟨h.1.only he HG.out,h.2.tr he⟩),fun _ _ _ _ => (fun w5 w6 h he => by obtain ⟨f,rfl⟩ := he;exact ⟨putS_far h.1 HGS.out.1 _,h.2.pS _ _ (.inr HGS.out.2.2.1)⟩),trivial⟩⟩,⟨fun _ _ h hb => h.below hb,⟨fun _ h _ _ => absurd rfl h,fun _ _ h _ => absurd ⟨2,1,rfl,rfl⟩ h,trivial⟩⟩,⟨fun _ _ h hb => h.below hb,⟨fun _ _ _ _ => (fun w5 w6 h he => h.only he HGS.out.2.1),fun _ h _ _ => absurd rfl h,trivial⟩⟩,trivial⟩ (by kernel_rfl) (by kernel_rfl) ⟨⟨HR9.out.drew,HO9.out.drew⟩,HA9.out.drew,HS9.out.drew,trivial⟩ ?_
     show RgX.Build _ _ _ _ _ _ 0 [_,_,_,_,_] []
     refine RgX.cp 1 rfl rfl (by intro ax wx hk Kx hK;have k4 := hk.base 4 _ rfl rfl;have hL := hk.fact 0 0 _ rfl rfl;(try dsimp only at hL);have hs := hk.fact 2 1 _ rfl rfl;(try dsimp only at hs);clear hk;have z0 : wx.cell? ⟨w2.heap.size,0,none⟩ = some (.int .u64 ((wd F 0 : Nat) : Int)) := hs.cell 0 _ rfl;have z1 : wx.cell? ⟨w2.heap.size,1,none⟩ = some (.int .u64 ((wd F 1 : Nat) : Int)) := hs.cell 1 _ rfl;have z2 : wx.cell? ⟨w2.heap.size,2,none⟩ = some (.int .u64 ((wd F 2 : Nat) : Int)) := hs.cell 2 _ rfl;have z3 : wx.cell? ⟨w2.heap.size,3,none⟩ = some (.int .u64 ((wd F 3 : Nat) : Int)) := hs.cell 3 _ rfl;go_simp;exact hK _ _ (fun h => by cases h) (fun _ _ => rfl) (Below.refl _ _)) ?_
     refine RgX.cp 2 rfl rfl (by intro ax wx hk Kx hK;have k0 := hk.base 0 _ rfl rfl;have hL := hk.fact 0 0 _ rfl rfl;(try dsimp only at hL);have hg := hk.fact 1 1 _ rfl rfl;(try dsimp only at hg);have hs := hk.fact 2 1 _ rfl rfl;(try dsimp only at hs);clear hk;go_simp;exact hK _ _ (fun h => by cases h) (fun _ _ => rfl) (Below.refl _ _)) ?_
     refine RgX.build_cons (m := 3) (r := (⟨fun v _ w5 => v = setOf G ∧ StR s g o x (.ok G r) w5,none,none⟩ : RgX.Rl)) (RgX.one_plain rfl (by intro ax wx hk Kx hK;have k29 := hk.e 0 1 29 rfl rfl rfl;have hL := hk.fact 0 0 _ rfl rfl;(try dsimp only at hL);have hg := hk.fact 1 0 _ rfl rfl;(try dsimp only at hg);have hs := hk.fact 2 1 _ rfl rfl;(try dsimp only at hs);clear hk;go_simp;refine (item_any g s q o x _ hg HQ.out HM.out).mono ?_;rintro e w' ⟨G',rfl,hS5,hO5,hq5⟩;(rw [HIF.out] at hS5 hq5;obtain rfl := hq5 G r rfl;exact hK _ _ (fun h => by cases h) (fun _ _ => ⟨rfl,hS5⟩) hO5))) ?_ rfl (RgX.keep_r (fun _ _ _ _ h hb => ⟨h.1,StR.below h.2 hb⟩) (fun _ _ => ⟨fun h _ _ _ => absurd rfl h,fun _ _ _ _ => (fun w5 w6 h he => by obtain ⟨f,rfl⟩ := he;exact ⟨h.1,StR.far h.2 HGS.out.2.2.2 _⟩),trivial⟩)) (fun _ h => by cases h)
     refine RgX.cp 4 rfl rfl (by intro ax wx hk Kx hK;have k28 := hk.e 0 0 28 rfl rfl rfl;obtain ⟨v30,k30,h30⟩ := hk.dep 0 2 30 _ rfl rfl rfl;(first | (replace h30 := h30 9 undef rfl rfl;first | (cases (h30 : v30 = _)) | (obtain ⟨rfl,h30⟩ := h30) | skip) | skip);have hL := hk.fact 0 0 _ rfl rfl;(try dsimp only at hL);have hs := hk.fact 2 1 _ rfl rfl;(try dsimp only at hs);clear hk;go_simp;refine (refOr_any F G _).mono ?_;rintro e w' ⟨rfl,hb⟩;refine hK _ _ (fun h => by cases h) (fun _ _ => ?_) hb;apply RgX.mk) ?_
     refine RgX.build_cons (m := 5) (r := (⟨fun _ _ w5 => AtG w5 w2.heap.size 38 (cellsOf fun x => F x || G x),none,none⟩ : RgX.Rl)) (RgX.one_plain rfl (by intro ax wx hk Kx hK;have k4 := hk.base 4 _ rfl rfl;have k31 := hk.e 0 3 31 rfl rfl rfl;have hL := hk.fact 0 0 _ rfl rfl;(try dsimp only at hL);have hs := hk.fact 2 0 _ rfl rfl;(try dsimp only at hs);clear hk;(have d0 : wx.cell? ⟨w2.heap.size,0,none⟩ = some (.int .u64 ((wd F 0 : Nat) : Int)) := hs.cell 0 _ rfl;have d1 : wx.cell? ⟨w2.heap.size,1,none⟩ = some (.int .u64 ((wd F 1 : Nat) : Int)) := hs.cell 1 _ rfl;have d2 : wx.cell? ⟨w2.heap.size,2,none⟩ = some (.int .u64 ((wd F 2 : Nat) : Int)) := hs.cell 2 _ rfl;have d3 : wx.cell? ⟨w2.heap.size,3,none⟩ = some (.int .u64 ((wd F 3 : Nat) : Int)) := hs.cell 3 _ rfl;have f0 := hs.frozen 0;have f1 := hs.frozen 1;have f2 := hs.frozen 2;have f3 := hs.frozen 3;unfold setOf at k31;go_simp;exact hK undef _ (fun _ => rfl) (fun u hu => putS_at hs _) ⟨_,rfl⟩))) ?_ rfl (RgX.keep_r (fun _ _ _ _ h hb => h.below hb) (fun _ _ => ⟨fun _ _ _ h => absurd ⟨1,rfl⟩ h,fun h _ _ _ => absurd rfl h,trivial⟩)) (fun _ h => by cases h)
     refine RgX.build_end fun wx hj => ?_
     have hL := hj 0 _ rfl rfl
     clear hj
     iterate 2 refine RgX.fin_eq rfl ?_
     first | refine RgX.fin_eq rfl ?_ | refine RgX.fin_any rfl fun v30 h30 => ?_
     refine RgX.fin_eq rfl ?_
     refine RgX.fin_none rfl fun s4 => ?_
     refine RgX.fin_nil ?_
     simp only [List.set_cons_zero,List.set_cons_succ]
     have hS5 := (h30 rfl undef rfl).2
     have hs5 := s4 rfl undef rfl
     clear h30 s4
     have HL := Lib.hid hL;have H5 := Lib.hid hS5;have H6 := Lib.hid hs5
     clear hL hS5 hs5
     go_wp2_with fail
     refine ⟨⟨_,H6.out,HL.out.1,HL.out.2,.inl ⟨r,k',H5.out,HIN.out.2,by have := HIN.out.1;have := HIN.out.2;have := HK.out;omega,by rw [HX9.out,HCF.out,HIF.out]⟩⟩,?_⟩
     rw [leftR_ok H5.out,HLE.out]
     have := HIN.out.1;have := HIN.out.2;omega
    | no cc yy =>
     rw [hif] at hin
     have HIF := Lib.hid hif;have HIN := Lib.hid hin
     clear hif hin h93 e93
     refine RgX.start (by kernel_rfl) [(2,fun w5 w6 => Only (fun k => k = g) w5 w6),(4,fun w5 w6 => ∃ f,w6 = putS w5 w2.heap.size f)] [⟨fun w5 => AtG w5 w.heap.size 38 (setC 0 0 0 0) ∧ Only (fun k => k = g) w w5,none⟩,⟨fun w5 => AtG w5 g 114 (rdr s (q : Int) o 0 x),some 2⟩,⟨fun w5 => AtG w5 w2.heap.size 38 (cellsOf F),some 4⟩] ⟨⟨fun _ _ h hb => ⟨h.1.below hb,h.2.tb hb⟩,⟨fun _ _ _ _ => (fun w5 w6 h he => ⟨h.1.only he HG.out,h.2.tr he⟩),fun _ _ _ _ => (fun w5 w6 h he => by obtain ⟨f,rfl⟩ := he;exact ⟨putS_far h.1 HGS.out.1 _,h.2.pS _ _ (.inr HGS.out.2.2.1)⟩),trivial⟩⟩,⟨fun _ _ h hb => h.below hb,⟨fun _ h _ _ => absurd rfl h,fun _ _ h _ => absurd ⟨2,1,rfl,rfl⟩ h,trivial⟩⟩,⟨fun _ _ h hb => h.below hb,⟨fun _ _ _ _ => (fun w5 w6 h he => h.only he HGS.out.2.1),fun _ h _ _ => absurd rfl h,trivial⟩⟩,trivial⟩ (by kernel_rfl) (by kernel_rfl) ⟨⟨HR9.out.drew,HO9.out.drew⟩,HA9.out.drew,HS9.out.drew,trivial⟩ ?_
     show RgX.Build _ _ _ _ _ _ 0 [_,_,_,_,_] []
     refine RgX.cp 1 rfl rfl (by intro ax wx hk Kx hK;have k4 := hk.base 4 _ rfl rfl;have hL := hk.fact 0 0 _ rfl rfl;(try dsimp only at hL);have hs := hk.fact 2 1 _ rfl rfl;(try dsimp only at hs);clear hk;have z0 : wx.cell? ⟨w2.heap.size,0,none⟩ = some (.int .u64 ((wd F 0 : Nat) : Int)) := hs.cell 0 _ rfl;have z1 : wx.cell? ⟨w2.heap.size,1,none⟩ = some (.int .u64 ((wd F 1 : Nat) : Int)) := hs.cell 1 _ rfl;have z2 : wx.cell? ⟨w2.heap.size,2,none⟩ = some (.int .u64 ((wd F 2 : Nat) : Int)) := hs.cell 2 _ rfl;have z3 : wx.cell? ⟨w2.heap.size,3,none⟩ = some (.int .u64 ((wd F 3 : Nat) : Int)) := hs.cell 3 _ rfl;go_simp;exact hK _ _ (fun h => by cases h) (fun _ _ => rfl) (Below.refl _ _)) ?_
     refine RgX.cp 2 rfl rfl (by intro ax wx hk Kx hK;have k0 := hk.base 0 _ rfl rfl;have hL := hk.fact 0 0 _ rfl rfl;(try dsimp only at hL);have hg := hk.fact 1 1 _ rfl rfl;(try dsimp only at hg);have hs := hk.fact 2 1 _ rfl rfl;(try dsimp only at hs);clear hk;go_simp;exact hK _ _ (fun h => by cases h) (fun _ _ => rfl) (Below.refl _ _)) ?_
     refine RgX.build_cons (m := 3) (r := (⟨fun v _ w5 => (∃ G',v = setOf G') ∧ StR s g o x (.no cc yy : Re Nat) w5,none,none⟩ : RgX.Rl)) (RgX.one_plain rfl (by intro ax wx hk Kx hK;have k29 := hk.e 0 1 29 rfl rfl rfl;have hL := hk.fact 0 0 _ rfl rfl;(try dsimp only at hL);have hg := hk.fact 1 0 _ rfl rfl;(try dsimp only at hg);have hs := hk.fact 2 1 _ rfl rfl;(try dsimp only at hs);clear hk;go_simp;refine (item_any g s q o x _ hg HQ.out HM.out).mono ?_;rintro e w' ⟨G',rfl,hS5,hO5,hq5⟩;(rw [HIF.out] at hS5;exact hK _ _ (fun h => by cases h) (fun _ _ => ⟨⟨G',rfl⟩,hS5⟩) hO5))) ?_ rfl (RgX.keep_r (fun _ _ _ _ h hb => ⟨h.1,StR.below h.2 hb⟩) (fun _ _ => ⟨fun h _ _ _ => absurd rfl h,fun _ _ _ _ => (fun w5 w6 h he => by obtain ⟨f,rfl⟩ := he;exact ⟨h.1,StR.far h.2 HGS.out.2.2.2 _⟩),trivial⟩)) (fun _ h => by cases h)
     refine RgX.build_cons (m := 4) (r := (⟨fun v _ _ => ∃ G',v = setOf G',none,none⟩ : RgX.Rl)) (RgX.one_plain rfl (by intro ax wx hk Kx hK;have k28 := hk.e 0 0 28 rfl rfl rfl;obtain ⟨v30,k30,h30⟩ := hk.dep 0 2 30 _ rfl rfl rfl;(first | (replace h30 := h30 9 undef rfl rfl;first | (cases (h30 : v30 = _)) | (obtain ⟨rfl,h30⟩ := h30) | skip) | skip);have hL := hk.fact 0 0 _ rfl rfl;(try dsimp only at hL);have hs := hk.fact 2 1 _ rfl rfl;(try dsimp only at hs);clear hk;obtain ⟨⟨G',rfl⟩,hS6⟩ := h30;go_simp;refine (refOr_any F G' _).mono ?_;rintro e w' ⟨rfl,hb⟩;exact hK _ _ (fun h => by cases h) (fun _ _ => ⟨_,rfl⟩) hb)) ?_ rfl (RgX.keep_r (fun _ _ _ _ h hb => h) (fun _ _ => ⟨fun _ _ _ h => absurd ⟨1,rfl⟩ h,fun _ _ _ _ => (fun w5 w6 h he => h),trivial⟩)) (fun _ h => by cases h)
     refine RgX.build_cons (m := 5) (r := (⟨fun _ _ w5 => ∃ G',AtG w5 w2.heap.size 38 (cellsOf G'),none,none⟩ : RgX.Rl)) (RgX.one_plain rfl (by intro ax wx hk Kx hK;have k4 := hk.base 4 _ rfl rfl;obtain ⟨v31,k31,h31⟩ := hk.dep 0 3 31 _ rfl rfl rfl;(first | (replace h31 := h31 9 undef rfl rfl;first | (cases (h31 : v31 = _)) | (obtain ⟨rfl,h31⟩ := h31) | skip) | skip);have hL := hk.fact 0 0 _ rfl rfl;(try dsimp only at hL);have hs := hk.fact 2 0 _ rfl rfl;(try dsimp only at hs);clear hk;obtain ⟨G',rfl⟩ := h31;(have d0 : wx.cell? ⟨w2.heap.size,0,none⟩ = some (.int .u64 ((wd F 0 : Nat) : Int)) := hs.cell 0 _ rfl;have d1 : wx.cell? ⟨w2.heap.size,1,none⟩ = some (.int .u64 ((wd F 1 : Nat) : Int)) := hs.cell 1 _ rfl;have d2 : wx.cell? ⟨w2.heap.size,2,none⟩ = some (.int .u64 ((wd F 2 : Nat) : Int)) := hs.cell 2 _ rfl;have d3 : wx.cell? ⟨w2.heap.size,3,none⟩ = some (.int .u64 ((wd F 3 : Nat) : Int)) := hs.cell 3 _ rfl;have f0 := hs.frozen 0;have f1 := hs.frozen 1;have f2 := hs.frozen 2;have f3 := hs.frozen 3;unfold setOf at k31;go_simp;exact hK undef _ (fun _ => rfl) (fun u hu => ⟨_,putS_at hs _⟩) ⟨_,rfl⟩))) ?_ rfl (RgX.keep_r (fun _ _ _ _ h hb => by obtain ⟨G',h⟩ := h;exact ⟨G',h.below hb⟩) (fun _ _ => ⟨fun _ _ _ h => absurd ⟨1,rfl⟩ h,fun h _ _ _ => absurd rfl h,trivial⟩)) (fun _ h => by cases h)
     refine RgX.build_end fun wx hj => ?_
     have hL := hj 0 _ rfl rfl
     clear hj
     iterate 2 refine RgX.fin_eq rfl ?_
     first | refine RgX.fin_eq rfl ?_ | refine RgX.fin_any rfl fun v30 h30 => ?_
     first | refine RgX.fin_eq rfl ?_ | refine RgX.fin_any rfl fun v31 h31 => ?_
     refine RgX.fin_none rfl fun s4 => ?_
     refine RgX.fin_nil ?_
     simp only [List.set_cons_zero,List.set_cons_succ]
     have hS5 := (h30 rfl undef rfl).2
     have hs5 := s4 rfl undef rfl
     clear h30 s4 h31
     obtain ⟨pb,hS5⟩ := hS5
     obtain ⟨G',hs5⟩ := hs5
     have HL := Lib.hid hL;have H5 := Lib.hid hS5;have H6 := Lib.hid hs5
     have hcc : cc ≠ 0 := by have := HIN.out.1;omega
     have HCC := Lib.hid hcc
     clear hL hS5 hs5 hcc
     go_wp2_with fail
     refine ⟨⟨G',H6.out,HL.out.1,HL.out.2,.inr ⟨cc,yy,pb,HCC.out,H5.out,by rw [HX9.out,HCF.out,HIF.out];rfl⟩⟩,?_⟩
     rw [leftR_no H5.out HCC.out,HLE.out]
     have := HQ.out;omega
  ·have HS9 := Lib.hid hs9;have HR9 := Lib.hid hr9;have HO9 := Lib.hid ho9;have HA9 := Lib.hid ha9;have HX := Lib.hid hx9;have HCC := Lib.hid hcc
   have e0 : (cc == 0) = false := by rw [beq_eq_false_iff_ne];exact hcc
   clear hs9 hr9 ho9 ha9 hx9 hcc
   have z3 : wr.cell? ⟨g,3,none⟩ = some (.int .i64 cc) := HA9.out.cell 3 _ rfl
   go_wp2_with fail
   refine (next_bad g s pb o cc _ _ HA9.out HCC.out).mono ?_
   rintro e9 wq ⟨rfl,hb⟩
   have HAq := Lib.hid (HA9.out.below hb);have HRq := Lib.hid (HR9.out.below hb);have HOq := Lib.hid (HO9.out.tb hb);have HSq := Lib.hid (HS9.out.below hb)
   clear hb z3 e0
   have d0 := (HRq.out).cell 0 _ rfl;have d1 := (HRq.out).cell 1 _ rfl;have d2 := (HRq.out).cell 2 _ rfl;have d3 := (HRq.out).cell 3 _ rfl
   have f0 := (HRq.out).frozen 0;have f1 := (HRq.out).frozen 1;have f2 := (HRq.out).frozen 2;have f3 := (HRq.out).frozen 3
   have e0 : wq.cell? ⟨w2.heap.size,0,none⟩ = some (.int .u64 ((wd F 0 : Nat) : Int)) := HSq.out.cell 0 _ rfl
   have e1 : wq.cell? ⟨w2.heap.size,1,none⟩ = some (.int .u64 ((wd F 1 : Nat) : Int)) := HSq.out.cell 1 _ rfl
   have e2 : wq.cell? ⟨w2.heap.size,2,none⟩ = some (.int .u64 ((wd F 2 : Nat) : Int)) := HSq.out.cell 2 _ rfl
   have e3 : wq.cell? ⟨w2.heap.size,3,none⟩ = some (.int .u64 ((wd F 3 : Nat) : Int)) := HSq.out.cell 3 _ rfl
   go_wp2_with fail
   refine bodyPost_ret (v := setOf F) (by simp [results,Tryz.results109,go_sem,d0,d1,d2,d3];try rfl) rfl ⟨_,rfl,?_,?_,?_⟩
   ·rw [HX.out];exact ⟨pb,putS_far HAq.out HG2.out _⟩
   ·exact HOq.out.pS _ _ (.inr (Nat.le_refl _))
   ·intro a b h;rw [HX.out] at h;cases h
theorem class_any (g : Nat) (s : ByteArray) (p : Nat) (o x : Int) (w : World) (h : AtG w g 114 (rdr s p o 0 x)) (hp : p ≤ s.size) (hm : s.size ≤ 1000) :
  Calls Tryz.prog 109 #[.pointer (some ⟨g,0,none⟩)] w fun e w' => ∃ F : Nat → Bool,e = .returned (setOf F) ∧ StR s g o x (classF s p) w' ∧ Only (fun k => k = g) w w' ∧ ∀ f q,classF s p = .ok f q → F = f := by
 by_cases h94 : ch s p = 94
 ·exact class_neg g s p o x w h hp hm h94
 ·exact class_pos g s p o x w h hp hm h94
end Go.Proofs.YtgjcibhhffkemaaGreatDoor
namespace Go.Proofs.YtgjcibhhffkemaaGreatDoor
open Go.RowKit Bt
theorem many_one (op : Int) (b cap : Nat) (t : Tree) (a' : Option Addr) (n' c' : Nat) (w : World) (h : ∀ i,i < 8 → w.cell? ⟨b,i,none⟩ = (nodeL t (.slice a' n' c'))[i]?) :
  Calls Tryz.prog 70 #[.int .i64 op,.slice (some ⟨b,0,none⟩) 1 cap] w fun e w' => e = .returned (nodeV t (.slice a' n' c')) ∧ Below w.heap.size w w' := by
 obtain ⟨op',f,mn,mx,kids⟩ := t
 have hb : b < w.heap.size := World.block_lt_of_cell? w _ (h 0 (by omega))
 have hne : ¬ b = w.heap.size := by omega
 have z0 : w.cell? ⟨b,0,none⟩ = some (.int .i64 op') := h 0 (by omega)
 have z1 : w.cell? ⟨b,1,none⟩ = some (.int .u64 ((wd f 0 : Nat) : Int)) := h 1 (by omega)
 have z2 : w.cell? ⟨b,2,none⟩ = some (.int .u64 ((wd f 1 : Nat) : Int)) := h 2 (by omega)
 have z3 : w.cell? ⟨b,3,none⟩ = some (.int .u64 ((wd f 2 : Nat) : Int)) := h 3 (by omega)
 have z4 : w.cell? ⟨b,4,none⟩ = some (.int .u64 ((wd f 3 : Nat) : Int)) := h 4 (by omega)
 have z5 : w.cell? ⟨b,5,none⟩ = some (.int .i64 mn) := h 5 (by omega)
 have z6 : w.cell? ⟨b,6,none⟩ = some (.int .i64 mx) := h 6 (by omega)
 have z7 : w.cell? ⟨b,7,none⟩ = some (.slice a' n' c') := h 7 (by omega)
 clear h
 unfold nodeV
 dsimp only
 go_enter Tryz.func70,Tryz.ntmps70
 go_wp2
 go_returns
 exact ⟨rfl,by go_grown⟩
theorem many_more (op : Int) (a : Option Addr) (n cap : Nat) (w : World) (h : n ≠ 1) (hn : n ≤ 1000) :
  Calls Tryz.prog 70 #[.int .i64 op,.slice a n cap] w fun e w' => e = .returned (.agg #[.int .i64 op,.int .u64 0,.int .u64 0,.int .u64 0,.int .u64 0,.int .i64 0,.int .i64 0,.slice a n cap]) ∧ Below w.heap.size w w' := by
 have e1 : ((n : Int) == 1) = false := by rw [beq_eq_false_iff_ne];omega
 have h1 : ¬ (n : Int) = 1 := by omega
 go_enter Tryz.func70,Tryz.ntmps70
 go_wp2
 go_returns
 exact ⟨rfl,by go_grown⟩
def IvB (lo hi : Nat) (v : Value) : Nat → Prop := fun x => (lo ≤ x ∧ x < hi) ∧ v.ownBlock ≠ some x
theorem many_any (op : Int) (lo n : Nat) (v : Value) (ps : List (Tree × Value)) (w : World) (h : w.ownsRow lo 41 8 v n (flatN ps)) (ha : AllK (IvB lo w.heap.size v) w ps) (hn : ps ≠ []) (hl : ps.length ≤ 1000) :
  Calls Tryz.prog 70 #[.int .i64 op,v] w fun e w' => Below w.heap.size w w' ∧ ∃ kv,e = .returned (nodeV (many op (ps.map (·.1))) kv) ∧ KAt (Iv lo w.heap.size) w (many op (ps.map (·.1))) kv := by
 obtain ⟨b,cap,rfl,hcap,hlo,hhi,hob,hr⟩ := own_kids h ha hn
 clear hr
 match ps,hn with
 | [(t,kv)],_ =>
  have hk := ha (t,kv) (by simp)
  obtain ⟨a',n',c',rfl⟩ : ∃ a n c,kv = .slice a n c := by
   cases t with
   | node op' f mn mx kids => obtain ⟨a,c,h⟩ := KAt.slice hk;exact ⟨a,_,c,h⟩
  refine (many_one op b cap t a' n' c' w ?_).mono (by rintro e w' ⟨rfl,hb⟩;exact ⟨hb,_,rfl,hk.mono fun x hx => hx.1⟩)
  intro i hi
  obtain ⟨g,cap',cur,heq,hb,hh,hnc,hcm,hcs,hct⟩ := h.2.resolve_left (by rintro ⟨h,_⟩;cases h)
  injection heq with e1 e2 e3
  injection e1 with e1
  injection e1 with e1
  subst e1
  rw [flatN_one] at hct
  generalize nodeL t (.slice a' n' c') = L at hct ⊢
  rw [← hct,List.getElem?_take,if_pos (by simp at e2;omega)]
  simp [World.cell?,hh]
 | p :: q :: r,_ =>
  refine (many_more op _ _ cap w (by simp) hl).mono ?_
  rintro e w' ⟨rfl,hb⟩
  refine ⟨hb,.slice (some ⟨b,0,none⟩) (p :: q :: r).length cap,?_,?_⟩
  ·show Ending.returned _ = Ending.returned (.agg #[.int .i64 op,.int .u64 ((wd emp 0 : Nat) : Int),.int .u64 ((wd emp 1 : Nat) : Int),.int .u64 ((wd emp 2 : Nat) : Int),.int .u64 ((wd emp 3 : Nat) : Int),.int .i64 0,.int .i64 0,_])
   unfold emp;simp only [wd_none];rfl
  ·show KAt _ w (.node op emp 0 0 ((p :: q :: r).map (·.1))) _
   rw [KAt]
   refine .inr ⟨by simp,by simpa using hl,b,0,cap,by simp,by simpa using hcap,⟨hlo,hhi⟩,?_⟩
   obtain ⟨b',cap',heq,_,_,_,hob',hr'⟩ := own_kids h ha (by simp)
   injection heq with e1 e2 e3
   injection e1 with e1
   injection e1 with e1
   subst e1
   refine KRow.mk _ _ _ fun j t hj => ?_
   obtain ⟨kv,h1,h2⟩ := KRow.get _ _ _ _ _ hr' hj
   exact ⟨kv,h1,h2.mono fun x hx => hx.1⟩
end Go.Proofs.YtgjcibhhffkemaaGreatDoor
namespace Go.Proofs.YtgjcibhhffkemaaGreatDoor
open Go.RowKit Bt
def NPost (s : ByteArray) (g o : Nat) (x : Int) (w : World) (q : Q) (p : Nat) (e : Ending) (w' : World) : Prop :=
 ∃ t kv,e = .returned (nodeV t kv) ∧ KAt (Iv w.heap.size w'.heap.size) w' t kv ∧ Only (fun k => k = g) w w' ∧ ∃ r : Re Tree,P s q o p r ∧ StR s g (o : Int) x r w' ∧ ∀ t' q',r = .ok t' q' → t = t'
def nodeZ : Array Value := #[.int .i64 0,.int .u64 0,.int .u64 0,.int .u64 0,.int .u64 0,.int .i64 0,.int .i64 0,.slice none 0 0]
def putN (w : World) (g : Nat) (op : Int) (f : Nat → Bool) (mn mx : Int) (kv : Value) : World :=
 (((((((w.setCell ⟨g,0,none⟩ (.int .i64 op)).setCell ⟨g,1,none⟩ (.int .u64 ((wd f 0 : Nat) : Int))).setCell ⟨g,2,none⟩ (.int .u64 ((wd f 1 : Nat) : Int))).setCell ⟨g,3,none⟩ (.int .u64 ((wd f 2 : Nat) : Int))).setCell ⟨g,4,none⟩ (.int .u64 ((wd f 3 : Nat) : Int))).setCell ⟨g,5,none⟩ (.int .i64 mn)).setCell ⟨g,6,none⟩ (.int .i64 mx)).setCell ⟨g,7,none⟩ kv
theorem putN_at {w : World} {g T : Nat} {a b c d e f' i j : Value} (h : AtG w g T #[a,b,c,d,e,f',i,j]) (op : Int) (f : Nat → Bool) (mn mx : Int) (kv : Value) : AtG (putN w g op f mn mx kv) g T #[.int .i64 op,.int .u64 ((wd f 0 : Nat) : Int),.int .u64 ((wd f 1 : Nat) : Int),.int .u64 ((wd f 2 : Nat) : Int),.int .u64 ((wd f 3 : Nat) : Int),.int .i64 mn,.int .i64 mx,kv] := by
 have key : ∀ (w : World) (a b c d e f' i j : Value) (A B C D E F I J : Value),AtG w g T #[a,b,c,d,e,f',i,j] → AtG ((((((((w.setCell ⟨g,0,none⟩ A).setCell ⟨g,1,none⟩ B).setCell ⟨g,2,none⟩ C).setCell ⟨g,3,none⟩ D).setCell ⟨g,4,none⟩ E).setCell ⟨g,5,none⟩ F).setCell ⟨g,6,none⟩ I).setCell ⟨g,7,none⟩ J) g T #[A,B,C,D,E,F,I,J] := by
  intro w a b c d e f' i j A B C D E F I J h
  have h0 : AtG (w.setCell ⟨g,0,none⟩ A) g T #[A,b,c,d,e,f',i,j] := h.set 0 A
  have h1 : AtG ((w.setCell ⟨g,0,none⟩ A).setCell ⟨g,1,none⟩ B) g T #[A,B,c,d,e,f',i,j] := h0.set 1 B
  have h2 : AtG (((w.setCell ⟨g,0,none⟩ A).setCell ⟨g,1,none⟩ B).setCell ⟨g,2,none⟩ C) g T #[A,B,C,d,e,f',i,j] := h1.set 2 C
  have h3 : AtG ((((w.setCell ⟨g,0,none⟩ A).setCell ⟨g,1,none⟩ B).setCell ⟨g,2,none⟩ C).setCell ⟨g,3,none⟩ D) g T #[A,B,C,D,e,f',i,j] := h2.set 3 D
  have h4 : AtG (((((w.setCell ⟨g,0,none⟩ A).setCell ⟨g,1,none⟩ B).setCell ⟨g,2,none⟩ C).setCell ⟨g,3,none⟩ D).setCell ⟨g,4,none⟩ E) g T #[A,B,C,D,E,f',i,j] := h3.set 4 E
  have h5 : AtG ((((((w.setCell ⟨g,0,none⟩ A).setCell ⟨g,1,none⟩ B).setCell ⟨g,2,none⟩ C).setCell ⟨g,3,none⟩ D).setCell ⟨g,4,none⟩ E).setCell ⟨g,5,none⟩ F) g T #[A,B,C,D,E,F,i,j] := h4.set 5 F
  have h6 : AtG (((((((w.setCell ⟨g,0,none⟩ A).setCell ⟨g,1,none⟩ B).setCell ⟨g,2,none⟩ C).setCell ⟨g,3,none⟩ D).setCell ⟨g,4,none⟩ E).setCell ⟨g,5,none⟩ F).setCell ⟨g,6,none⟩ I) g T #[A,B,C,D,E,F,I,j] := h5.set 6 I
  have h7 : AtG ((((((((w.setCell ⟨g,0,none⟩ A).setCell ⟨g,1,none⟩ B).setCell ⟨g,2,none⟩ C).setCell ⟨g,3,none⟩ D).setCell ⟨g,4,none⟩ E).setCell ⟨g,5,none⟩ F).setCell ⟨g,6,none⟩ I).setCell ⟨g,7,none⟩ J) g T #[A,B,C,D,E,F,I,J] := h6.set 7 J
  exact h7
 exact key w _ _ _ _ _ _ _ _ _ _ _ _ _ _ _ _ h
theorem putN_far {w : World} {g g' T : Nat} {cs : Array Value} (h : AtG w g' T cs) (hg : g' ≠ g) (op : Int) (f : Nat → Bool) (mn mx : Int) (kv : Value) : AtG (putN w g op f mn mx kv) g' T cs :=
 (((((((h.far hg _).far hg _).far hg _).far hg _).far hg _).far hg _).far hg _).far hg _
theorem putN_size (w : World) (g : Nat) (op : Int) (f : Nat → Bool) (mn mx : Int) (kv : Value) : (putN w g op f mn mx kv).heap.size = w.heap.size := by simp [putN]
theorem Only.pN {S : Nat → Prop} {w w1 : World} (h : Only S w w1) (g : Nat) (hg : S g ∨ w.heap.size ≤ g) (op : Int) (f : Nat → Bool) (mn mx : Int) (kv : Value) : Only S w (putN w1 g op f mn mx kv) :=
 (((((((h.st g 0 _ hg).st g 1 _ hg).st g 2 _ hg).st g 3 _ hg).st g 4 _ hg).st g 5 _ hg).st g 6 _ hg).st g 7 _ hg
theorem putN_block (w : World) (g : Nat) (op : Int) (f : Nat → Bool) (mn mx : Int) (kv : Value) (b : Nat) (hb : b ≠ g) (hl : b < w.heap.size) : (putN w g op f mn mx kv).heap[b]? = w.heap[b]? :=
 ((Only.refl (S := fun k => k = g) w).pN g (.inl rfl) op f mn mx kv).block b hl hb
theorem StR.farN {α : Type} {s : ByteArray} {g : Nat} {o x : Int} {r : Re α} {w : World} (h : StR s g o x r w) {gg : Nat} (hg : g ≠ gg) (op : Int) (f : Nat → Bool) (mn mx : Int) (kv : Value) : StR s g o x r (putN w gg op f mn mx kv) := by
 cases r with
 | ok a q => exact putN_far h hg op f mn mx kv
 | no c y => obtain ⟨p,h⟩ := h;exact ⟨p,putN_far h hg op f mn mx kv⟩
theorem StR.alloc {α : Type} {s : ByteArray} {g : Nat} {o x : Int} {r : Re α} {w : World} (h : StR s g o x r w) (ob : Obj) : StR s g o x r (w.alloc ob) := StR.below h ((Below.refl _ _).alloc (Nat.le_refl _) ob)
theorem StR.map {α β : Type} {s : ByteArray} {g : Nat} {o x : Int} {r : Re α} {w : World} (f : α → β) (h : StR s g o x r w) : StR s g o x (r.map f) w := by cases r <;> exact h
theorem kat_one (D : Nat → Prop) (w : World) (op : Int) (f : Nat → Bool) (mn mx : Int) : KAt D w (.node op f mn mx []) (.slice none 0 0) := by rw [KAt];exact .inl ⟨rfl,none,0,rfl⟩
theorem node_post {s : ByteArray} {g o : Nat} {x : Int} {w wn : World} {q : Q} {p : Nat} {r : Re Tree} {op : Int} {f : Nat → Bool} {mn mx : Int} {kids : List Tree} {kv : Value}
  (hP : P s q o p r) (hS : StR s g (o : Int) x r wn) (hO : Only (fun k => k = g) w wn) (hg : g < w.heap.size) (hl : w.heap.size < wn.heap.size) (hK : KAt (Iv (w.heap.size + 1) wn.heap.size) wn (.node op f mn mx kids) kv) (hi : ∀ t' q',r = .ok t' q' → .node op f mn mx kids = t') :
  NPost s g o x w q p (.returned (nodeV (.node op f mn mx kids) kv)) (putN wn w.heap.size op f mn mx kv) := by
 refine ⟨_,kv,rfl,?_,hO.pN _ (.inr (Nat.le_refl _)) _ _ _ _ _,r,hP,StR.farN hS (by omega) _ _ _ _ _,hi⟩
 rw [putN_size]
 exact KAt.keep (fun b hb => putN_block _ _ _ _ _ _ _ b (by have := hb.1;omega) hb.2) (fun b hb => ⟨by have := hb.1;omega,hb.2⟩) _ _ hK
structure AtM (s : ByteArray) (g : Nat) (o x : Int) (r : Re Unit) (w wn : World) : Prop where
 st : StR s g o x r wn
 cell : AtG wn w.heap.size 41 nodeZ
 only : Only (fun k => k = g) w wn
namespace AtM
variable {s : ByteArray} {g : Nat} {o x : Int} {r : Re Unit} {w wn w2 : World}
theorem below (h : AtM s g o x r w wn) (hb : Below wn.heap.size wn w2) : AtM s g o x r w w2 := ⟨StR.below h.st hb,h.cell.below hb,h.only.tb hb⟩
theorem al (h : AtM s g o x r w wn) (ob : Obj) : AtM s g o x r w (wn.alloc ob) := h.below ((Below.refl _ _).alloc (Nat.le_refl _) ob)
theorem next {r' : Re Unit} {o' : Int} (h : AtM s g o x r w wn) (hg : g < w.heap.size) (hO : Only (fun k => k = g) wn w2) (hs : StR s g o' x r' w2) : AtM s g o' x r' w w2 := ⟨hs,h.cell.only hO (by show ¬ (w.heap.size = g);omega),h.only.tr hO⟩
end AtM
def Re.unit {α : Type} (r : Re α) : Re Unit := r.map (fun _ => ())
theorem atM_start {s : ByteArray} {g p : Nat} {o x : Int} {w : World} (h : AtG w g 114 (rdr s (p : Int) o 0 x)) : AtM s g o x (.ok () p) w (w.alloc (.cells nodeZ 41)) :=
 ⟨AtG.alloc h _,AtG.new w _ _,(Only.refl _).al _⟩
theorem StR.unit {α : Type} {s : ByteArray} {g : Nat} {o x : Int} {r : Re α} {w : World} (h : StR s g o x r w) : StR s g o x r.unit w := StR.map _ h
theorem StR.ununit {α : Type} {s : ByteArray} {g : Nat} {o x : Int} {r : Re α} {w : World} (h : StR s g o x r.unit w) : StR s g o x r w := by cases r <;> exact h
theorem refOf_oneI (w : World) (g : Nat) (c : Int) (h0 : 0 ≤ c) (h1 : c < 256) (h : AtG w g 5 #[.int .u8 c]) :
  Calls Tryz.prog 72 #[.slice (some ⟨g,0,none⟩) 1 1] w fun e w' => e = .returned (setOf fun y => y == c.toNat) ∧ Below w.heap.size w w' := by
 obtain ⟨n,rfl⟩ := Int.eq_ofNat_of_zero_le h0
 rw [Int.toNat_natCast]
 exact refOf_one w g n (by omega) h
end Go.Proofs.YtgjcibhhffkemaaGreatDoor
namespace Go.Proofs.YtgjcibhhffkemaaGreatDoor
open Go.RowKit Bt
set_option maxRecDepth 100000 in
set_option maxHeartbeats 1600000 in
theorem atom_end (g : Nat) (s : ByteArray) (p o : Nat) (x : Int) (w : World) (h : AtG w g 114 (rdr s p o 0 x)) (hp : p ≤ s.size) (hm : s.size ≤ 1000) (hc : ch s p < 0) :
  Calls Tryz.prog 96 #[.pointer (some ⟨g,0,none⟩)] w (NPost s g o x w .atom p) := by
 have HM := Lib.hid hm;have HLT := Lib.hid h.lt;have H0 := Lib.hid (atM_start h)
 have HN0 := Lib.hid (next_no g s p o x _ (AtG.alloc h (.cells nodeZ 41)) hp hc)
 have HPP : Hid (P s .atom o p (.no 2 p)) := Lib.hid (by
  have h1 : atomF s p = .no 2 p := by unfold atomF;rw [if_pos hc]
  have h2 : P s .atom o p (atomF s p) := P.plain (by omega)
  rw [h1] at h2;exact h2)
 clear h hp hm hc
 go_enter Tryz.func96,Tryz.ntmps96
 go_wp2_with fail
 refine (HN0.out).mono ?_
 rintro e9 w1 ⟨rfl,hA,hO⟩
 have H1 := Lib.hid (H0.out.next (r' := .no 2 p) HLT.out hO ⟨_,hA⟩)
 clear hA hO
 go_wp2_with fail
 refine (in_any (-1) brkS _ (by decide)).mono ?_
 rintro e9 w9 ⟨b,rfl,hb,rfl⟩
 obtain rfl : b = false := by
  rw [← Bool.not_eq_true,hb,inT_bl,brkS_bl];decide
 clear hb
 go_wp2_with fail
 refine (refOf_oneI _ w9.heap.size (0) (by decide) (by decide) (AtG.new w9 _ _)).mono ?_
 rintro e9 wo ⟨rfl,hb⟩
 have HWO := Lib.hid ((H1.out.al (.cells #[.int .u8 (0)] 5)).below hb)
 clear hb
 go_wp2_with fail
 refine (one_any (fun y => y == (0 : Int).toNat) _).mono ?_
 rintro e9 wn ⟨rfl,hb⟩
 have HN := Lib.hid (HWO.out.below hb)
 have HSZ := Lib.hid (show w.heap.size < wn.heap.size from HN.out.cell.lt)
 clear hb
 have d0 : wn.cell? ⟨w.heap.size,0,none⟩ = some (.int .i64 0) := (HN.out.cell).cell 0 _ rfl
 have d1 : wn.cell? ⟨w.heap.size,1,none⟩ = some (.int .u64 0) := (HN.out.cell).cell 1 _ rfl
 have d2 : wn.cell? ⟨w.heap.size,2,none⟩ = some (.int .u64 0) := (HN.out.cell).cell 2 _ rfl
 have d3 : wn.cell? ⟨w.heap.size,3,none⟩ = some (.int .u64 0) := (HN.out.cell).cell 3 _ rfl
 have d4 : wn.cell? ⟨w.heap.size,4,none⟩ = some (.int .u64 0) := (HN.out.cell).cell 4 _ rfl
 have d5 : wn.cell? ⟨w.heap.size,5,none⟩ = some (.int .i64 0) := (HN.out.cell).cell 5 _ rfl
 have d6 : wn.cell? ⟨w.heap.size,6,none⟩ = some (.int .i64 0) := (HN.out.cell).cell 6 _ rfl
 have d7 : wn.cell? ⟨w.heap.size,7,none⟩ = some (.slice none 0 0) := (HN.out.cell).cell 7 _ rfl
 have f0 := (HN.out.cell).frozen 0;have f1 := (HN.out.cell).frozen 1;have f2 := (HN.out.cell).frozen 2;have f3 := (HN.out.cell).frozen 3
 have f4 := (HN.out.cell).frozen 4;have f5 := (HN.out.cell).frozen 5;have f6 := (HN.out.cell).frozen 6;have f7 := (HN.out.cell).frozen 7
 unfold nodeV one
 dsimp only
 go_wp2_with fail
 refine bodyPost_ret (v := nodeV (one (fun y => y == (0 : Int).toNat)) (.slice none 0 0)) (by simp [results,Tryz.results96,go_sem,d0,d1,d2,d3,d4,d5,d6,d7];try rfl) rfl ?_
 exact node_post (r := .no 2 p) HPP.out (StR.ununit HN.out.st) HN.out.only HLT.out HSZ.out (kat_one _ _ _ _ _ _) (fun _ _ h => by cases h)
set_option maxRecDepth 100000 in
set_option maxHeartbeats 1600000 in
theorem atom_dot (g : Nat) (s : ByteArray) (p o : Nat) (x : Int) (w : World) (h : AtG w g 114 (rdr s p o 0 x)) (hp : p ≤ s.size) (hm : s.size ≤ 1000) (hc : ch s p = 46) :
  Calls Tryz.prog 96 #[.pointer (some ⟨g,0,none⟩)] w (NPost s g o x w .atom p) := by
 have HM := Lib.hid hm;have HLT := Lib.hid h.lt;have H0 := Lib.hid (atM_start h)
 have HN0 := next_ch g s p o x _ (AtG.alloc h (.cells nodeZ 41)) (by omega) (by omega)
 have hp1 := ch_ge (s := s) (p := p) (by omega)
 obtain ⟨pi,hpi⟩ : ∃ pi : Int,pi = ((p + 1 : Nat) : Int) := ⟨_,rfl⟩
 have hpi2 : pi - 1 = (p : Int) := by omega
 have hpi3 : 0 ≤ pi - 1 := by omega
 have hpi4 : pi < 10000 := by omega
 have HPP : Hid (P s .atom o p (.ok (one fun y => !(y == 10)) (p + 1))) := Lib.hid (by
  have h1 : atomF s p = .ok (one fun y => !(y == 10)) (p + 1) := by unfold atomF;rw [hc];rfl
  have h2 : P s .atom o p (atomF s p) := P.plain (by omega)
  rw [h1] at h2;exact h2)
 rw [hc] at HN0
 have HN0 := Lib.hid HN0
 clear h hp hm hc hpi hp1
 go_enter Tryz.func96,Tryz.ntmps96
 go_wp2_with fail
 refine (HN0.out).mono ?_
 rintro e9 w1 ⟨rfl,hA,hO⟩
 have H1 := Lib.hid (H0.out.next (r' := .ok () (p + 1)) HLT.out hO hA)
 clear hA hO
 go_wp2_with fail
 refine (refOf_oneI _ w1.heap.size 10 (by decide) (by decide) (AtG.new w1 _ _)).mono ?_
 rintro e9 w2 ⟨rfl,hb⟩
 have H2 := Lib.hid ((H1.out.al (.cells #[.int .u8 10] 5)).below hb)
 clear hb
 go_wp2_with fail
 refine (refNot_any _ _).mono ?_
 rintro e9 w3 ⟨rfl,hb⟩
 have H3 := Lib.hid (H2.out.below hb)
 clear hb
 go_wp2_with fail
 refine (one_any (fun y => !(y == 10)) _).mono ?_
 rintro e9 wn ⟨rfl,hb⟩
 have HN := Lib.hid (H3.out.below hb)
 have HSZ := Lib.hid (show w.heap.size < wn.heap.size from HN.out.cell.lt)
 clear hb
 have d0 : wn.cell? ⟨w.heap.size,0,none⟩ = some (.int .i64 0) := (HN.out.cell).cell 0 _ rfl
 have d1 : wn.cell? ⟨w.heap.size,1,none⟩ = some (.int .u64 0) := (HN.out.cell).cell 1 _ rfl
 have d2 : wn.cell? ⟨w.heap.size,2,none⟩ = some (.int .u64 0) := (HN.out.cell).cell 2 _ rfl
 have d3 : wn.cell? ⟨w.heap.size,3,none⟩ = some (.int .u64 0) := (HN.out.cell).cell 3 _ rfl
 have d4 : wn.cell? ⟨w.heap.size,4,none⟩ = some (.int .u64 0) := (HN.out.cell).cell 4 _ rfl
 have d5 : wn.cell? ⟨w.heap.size,5,none⟩ = some (.int .i64 0) := (HN.out.cell).cell 5 _ rfl
 have d6 : wn.cell? ⟨w.heap.size,6,none⟩ = some (.int .i64 0) := (HN.out.cell).cell 6 _ rfl
 have d7 : wn.cell? ⟨w.heap.size,7,none⟩ = some (.slice none 0 0) := (HN.out.cell).cell 7 _ rfl
 have f0 := (HN.out.cell).frozen 0;have f1 := (HN.out.cell).frozen 1;have f2 := (HN.out.cell).frozen 2;have f3 := (HN.out.cell).frozen 3
 have f4 := (HN.out.cell).frozen 4;have f5 := (HN.out.cell).frozen 5;have f6 := (HN.out.cell).frozen 6;have f7 := (HN.out.cell).frozen 7
 unfold nodeV one
 dsimp only
 go_wp2_with fail
 refine bodyPost_ret (v := nodeV (one (fun y => !(y == 10))) (.slice none 0 0)) (by simp [results,Tryz.results96,go_sem,d0,d1,d2,d3,d4,d5,d6,d7];try rfl) rfl ?_
 exact node_post (r := .ok (one fun y => !(y == 10)) (p + 1)) HPP.out (StR.ununit HN.out.st) HN.out.only HLT.out HSZ.out (kat_one _ _ _ _ _ _) (fun _ _ h => by injection h)
set_option maxRecDepth 100000 in
set_option maxHeartbeats 1600000 in
theorem atom_class (g : Nat) (s : ByteArray) (p o : Nat) (x : Int) (w : World) (h : AtG w g 114 (rdr s p o 0 x)) (hp : p ≤ s.size) (hm : s.size ≤ 1000) (hc : ch s p = 91) :
  Calls Tryz.prog 96 #[.pointer (some ⟨g,0,none⟩)] w (NPost s g o x w .atom p) := by
 have HM := Lib.hid hm;have HLT := Lib.hid h.lt;have H0 := Lib.hid (atM_start h)
 have HN0 := next_ch g s p o x _ (AtG.alloc h (.cells nodeZ 41)) (by omega) (by omega)
 have hp1 := ch_ge (s := s) (p := p) (by omega)
 obtain ⟨pi,hpi⟩ : ∃ pi : Int,pi = ((p + 1 : Nat) : Int) := ⟨_,rfl⟩
 have hpi2 : pi - 1 = (p : Int) := by omega
 have hpi3 : 0 ≤ pi - 1 := by omega
 have hpi4 : pi < 10000 := by omega
 have HPP : Hid (P s .atom o p ((classF s (p + 1)).map one)) := Lib.hid (by
  have h1 : atomF s p = (classF s (p + 1)).map one := by unfold atomF;rw [hc];rfl
  have h2 : P s .atom o p (atomF s p) := P.plain (by omega)
  rw [h1] at h2;exact h2)
 rw [hc] at HN0
 have HN0 := Lib.hid HN0
 have HP1 := Lib.hid hp1
 clear h hp hm hc hpi hp1
 go_enter Tryz.func96,Tryz.ntmps96
 go_wp2_with fail
 refine (HN0.out).mono ?_
 rintro e9 w1 ⟨rfl,hA,hO⟩
 have H1 := Lib.hid (H0.out.next (r' := .ok () (p + 1)) HLT.out hO hA)
 have HA1 := Lib.hid hA
 clear hA hO
 go_wp2_with fail
 refine (class_any g s (p + 1) o x _ HA1.out HP1.out HM.out).mono ?_
 rintro e9 w3 ⟨F,rfl,hS,hO,hq⟩
 have H3 := Lib.hid (H1.out.next (r' := ((classF s (p + 1)).map one).unit) HLT.out hO (StR.unit (StR.map _ hS)))
 have HQ := Lib.hid hq
 clear hS hO hq
 go_wp2_with fail
 refine (one_any (F) _).mono ?_
 rintro e9 wn ⟨rfl,hb⟩
 have HN := Lib.hid (H3.out.below hb)
 have HSZ := Lib.hid (show w.heap.size < wn.heap.size from HN.out.cell.lt)
 clear hb
 have d0 : wn.cell? ⟨w.heap.size,0,none⟩ = some (.int .i64 0) := (HN.out.cell).cell 0 _ rfl
 have d1 : wn.cell? ⟨w.heap.size,1,none⟩ = some (.int .u64 0) := (HN.out.cell).cell 1 _ rfl
 have d2 : wn.cell? ⟨w.heap.size,2,none⟩ = some (.int .u64 0) := (HN.out.cell).cell 2 _ rfl
 have d3 : wn.cell? ⟨w.heap.size,3,none⟩ = some (.int .u64 0) := (HN.out.cell).cell 3 _ rfl
 have d4 : wn.cell? ⟨w.heap.size,4,none⟩ = some (.int .u64 0) := (HN.out.cell).cell 4 _ rfl
 have d5 : wn.cell? ⟨w.heap.size,5,none⟩ = some (.int .i64 0) := (HN.out.cell).cell 5 _ rfl
 have d6 : wn.cell? ⟨w.heap.size,6,none⟩ = some (.int .i64 0) := (HN.out.cell).cell 6 _ rfl
 have d7 : wn.cell? ⟨w.heap.size,7,none⟩ = some (.slice none 0 0) := (HN.out.cell).cell 7 _ rfl
 have f0 := (HN.out.cell).frozen 0;have f1 := (HN.out.cell).frozen 1;have f2 := (HN.out.cell).frozen 2;have f3 := (HN.out.cell).frozen 3
 have f4 := (HN.out.cell).frozen 4;have f5 := (HN.out.cell).frozen 5;have f6 := (HN.out.cell).frozen 6;have f7 := (HN.out.cell).frozen 7
 unfold nodeV one
 dsimp only
 go_wp2_with fail
 refine bodyPost_ret (v := nodeV (one (F)) (.slice none 0 0)) (by simp [results,Tryz.results96,go_sem,d0,d1,d2,d3,d4,d5,d6,d7];try rfl) rfl ?_
 exact node_post (r := (classF s (p + 1)).map one) HPP.out (StR.ununit HN.out.st) HN.out.only HLT.out HSZ.out (kat_one _ _ _ _ _ _) (fun t' q' h => by cases hcl : classF s (p + 1) with | ok f q => rw [hcl] at h;have := HQ.out f q hcl;subst this;injection h | no c y => rw [hcl] at h;cases h)
set_option maxRecDepth 100000 in
set_option maxHeartbeats 1600000 in
theorem atom_star (g : Nat) (s : ByteArray) (p o : Nat) (x : Int) (w : World) (h : AtG w g 114 (rdr s p o 0 x)) (hp : p ≤ s.size) (hm : s.size ≤ 1000) (c : Int) (hcc : c = 42 ∨ c = 43) (hc : ch s p = c) :
  Calls Tryz.prog 96 #[.pointer (some ⟨g,0,none⟩)] w (NPost s g o x w .atom p) := by
 have HM := Lib.hid hm;have HLT := Lib.hid h.lt;have H0 := Lib.hid (atM_start h)
 have HN0 := next_ch g s p o x _ (AtG.alloc h (.cells nodeZ 41)) (by omega) (by omega)
 have hp1 := ch_ge (s := s) (p := p) (by omega)
 obtain ⟨pi,hpi⟩ : ∃ pi : Int,pi = ((p + 1 : Nat) : Int) := ⟨_,rfl⟩
 have hpi2 : pi - 1 = (p : Int) := by omega
 have hpi3 : 0 ≤ pi - 1 := by omega
 have hpi4 : pi < 10000 := by omega
 have HPP : Hid (P s .atom o p (.no 3 p)) := Lib.hid (by
  have h1 : atomF s p = .no 3 p := by unfold atomF;rw [hc];rcases hcc with rfl | rfl <;> rfl
  have h2 : P s .atom o p (atomF s p) := P.plain (by omega)
  rw [h1] at h2;exact h2)
 rw [hc] at HN0
 rw [← hpi] at HN0
 have HN0 := Lib.hid HN0
 clear h hp hm hc hpi hp1
 rcases hcc with rfl | rfl
 ·go_enter Tryz.func96,Tryz.ntmps96
  go_wp2_with fail
  refine (HN0.out).mono ?_
  rintro e9 w1 ⟨rfl,hA,hO⟩
  have HA1 := Lib.hid hA;have HO1 := Lib.hid hO
  clear hA hO
  have z1 : w1.cell? ⟨g,1,none⟩ = some (.int .i64 pi) := HA1.out.cell 1 _ rfl
  go_wp2_with fail
  refine (failO g s _ o x _ 3 _ HA1.out).mono ?_
  rintro e9 w2 ⟨rfl,hA2,hO2⟩
  have H2 := Lib.hid (H0.out.next (r' := .no 3 p) HLT.out (HO1.out.tr hO2) ⟨_,hA2⟩)
  clear hA2 hO2 z1
  go_wp2_with fail
  refine (in_any 42 brkS _ (by decide)).mono ?_
  rintro e9 w9 ⟨b,rfl,hb,rfl⟩
  obtain rfl : b = false := by
   rw [← Bool.not_eq_true,hb,inT_bl,brkS_bl];decide
  clear hb
  go_wp2_with fail
  refine (refOf_oneI _ w9.heap.size (42) (by decide) (by decide) (AtG.new w9 _ _)).mono ?_
  rintro e9 wo ⟨rfl,hb⟩
  have HWO := Lib.hid ((H2.out.al (.cells #[.int .u8 (42)] 5)).below hb)
  clear hb
  go_wp2_with fail
  refine (one_any (fun y => y == (42 : Int).toNat) _).mono ?_
  rintro e9 wn ⟨rfl,hb⟩
  have HN := Lib.hid (HWO.out.below hb)
  have HSZ := Lib.hid (show w.heap.size < wn.heap.size from HN.out.cell.lt)
  clear hb
  have d0 : wn.cell? ⟨w.heap.size,0,none⟩ = some (.int .i64 0) := (HN.out.cell).cell 0 _ rfl
  have d1 : wn.cell? ⟨w.heap.size,1,none⟩ = some (.int .u64 0) := (HN.out.cell).cell 1 _ rfl
  have d2 : wn.cell? ⟨w.heap.size,2,none⟩ = some (.int .u64 0) := (HN.out.cell).cell 2 _ rfl
  have d3 : wn.cell? ⟨w.heap.size,3,none⟩ = some (.int .u64 0) := (HN.out.cell).cell 3 _ rfl
  have d4 : wn.cell? ⟨w.heap.size,4,none⟩ = some (.int .u64 0) := (HN.out.cell).cell 4 _ rfl
  have d5 : wn.cell? ⟨w.heap.size,5,none⟩ = some (.int .i64 0) := (HN.out.cell).cell 5 _ rfl
  have d6 : wn.cell? ⟨w.heap.size,6,none⟩ = some (.int .i64 0) := (HN.out.cell).cell 6 _ rfl
  have d7 : wn.cell? ⟨w.heap.size,7,none⟩ = some (.slice none 0 0) := (HN.out.cell).cell 7 _ rfl
  have f0 := (HN.out.cell).frozen 0;have f1 := (HN.out.cell).frozen 1;have f2 := (HN.out.cell).frozen 2;have f3 := (HN.out.cell).frozen 3
  have f4 := (HN.out.cell).frozen 4;have f5 := (HN.out.cell).frozen 5;have f6 := (HN.out.cell).frozen 6;have f7 := (HN.out.cell).frozen 7
  unfold nodeV one
  dsimp only
  go_wp2_with fail
  refine bodyPost_ret (v := nodeV (one (fun y => y == (42 : Int).toNat)) (.slice none 0 0)) (by simp [results,Tryz.results96,go_sem,d0,d1,d2,d3,d4,d5,d6,d7];try rfl) rfl ?_
  exact node_post (r := .no 3 p) HPP.out (StR.ununit HN.out.st) HN.out.only HLT.out HSZ.out (kat_one _ _ _ _ _ _) (fun _ _ h => by cases h)
 ·go_enter Tryz.func96,Tryz.ntmps96
  go_wp2_with fail
  refine (HN0.out).mono ?_
  rintro e9 w1 ⟨rfl,hA,hO⟩
  have HA1 := Lib.hid hA;have HO1 := Lib.hid hO
  clear hA hO
  have z1 : w1.cell? ⟨g,1,none⟩ = some (.int .i64 pi) := HA1.out.cell 1 _ rfl
  go_wp2_with fail
  refine (failO g s _ o x _ 3 _ HA1.out).mono ?_
  rintro e9 w2 ⟨rfl,hA2,hO2⟩
  have H2 := Lib.hid (H0.out.next (r' := .no 3 p) HLT.out (HO1.out.tr hO2) ⟨_,hA2⟩)
  clear hA2 hO2 z1
  go_wp2_with fail
  refine (in_any 43 brkS _ (by decide)).mono ?_
  rintro e9 w9 ⟨b,rfl,hb,rfl⟩
  obtain rfl : b = false := by
   rw [← Bool.not_eq_true,hb,inT_bl,brkS_bl];decide
  clear hb
  go_wp2_with fail
  refine (refOf_oneI _ w9.heap.size (43) (by decide) (by decide) (AtG.new w9 _ _)).mono ?_
  rintro e9 wo ⟨rfl,hb⟩
  have HWO := Lib.hid ((H2.out.al (.cells #[.int .u8 (43)] 5)).below hb)
  clear hb
  go_wp2_with fail
  refine (one_any (fun y => y == (43 : Int).toNat) _).mono ?_
  rintro e9 wn ⟨rfl,hb⟩
  have HN := Lib.hid (HWO.out.below hb)
  have HSZ := Lib.hid (show w.heap.size < wn.heap.size from HN.out.cell.lt)
  clear hb
  have d0 : wn.cell? ⟨w.heap.size,0,none⟩ = some (.int .i64 0) := (HN.out.cell).cell 0 _ rfl
  have d1 : wn.cell? ⟨w.heap.size,1,none⟩ = some (.int .u64 0) := (HN.out.cell).cell 1 _ rfl
  have d2 : wn.cell? ⟨w.heap.size,2,none⟩ = some (.int .u64 0) := (HN.out.cell).cell 2 _ rfl
  have d3 : wn.cell? ⟨w.heap.size,3,none⟩ = some (.int .u64 0) := (HN.out.cell).cell 3 _ rfl
  have d4 : wn.cell? ⟨w.heap.size,4,none⟩ = some (.int .u64 0) := (HN.out.cell).cell 4 _ rfl
  have d5 : wn.cell? ⟨w.heap.size,5,none⟩ = some (.int .i64 0) := (HN.out.cell).cell 5 _ rfl
  have d6 : wn.cell? ⟨w.heap.size,6,none⟩ = some (.int .i64 0) := (HN.out.cell).cell 6 _ rfl
  have d7 : wn.cell? ⟨w.heap.size,7,none⟩ = some (.slice none 0 0) := (HN.out.cell).cell 7 _ rfl
  have f0 := (HN.out.cell).frozen 0;have f1 := (HN.out.cell).frozen 1;have f2 := (HN.out.cell).frozen 2;have f3 := (HN.out.cell).frozen 3
  have f4 := (HN.out.cell).frozen 4;have f5 := (HN.out.cell).frozen 5;have f6 := (HN.out.cell).frozen 6;have f7 := (HN.out.cell).frozen 7
  unfold nodeV one
  dsimp only
  go_wp2_with fail
  refine bodyPost_ret (v := nodeV (one (fun y => y == (43 : Int).toNat)) (.slice none 0 0)) (by simp [results,Tryz.results96,go_sem,d0,d1,d2,d3,d4,d5,d6,d7];try rfl) rfl ?_
  exact node_post (r := .no 3 p) HPP.out (StR.ununit HN.out.st) HN.out.only HLT.out HSZ.out (kat_one _ _ _ _ _ _) (fun _ _ h => by cases h)
set_option maxRecDepth 100000 in
set_option maxHeartbeats 1600000 in
theorem atom_brk (g : Nat) (s : ByteArray) (p o : Nat) (x : Int) (w : World) (h : AtG w g 114 (rdr s p o 0 x)) (hp : p ≤ s.size) (hm : s.size ≤ 1000) (c : Int) (hc : ch s p = c) (h0 : 0 ≤ c) (n1 : c ≠ 40) (n2 : c ≠ 91) (n3 : c ≠ 46) (n4 : c ≠ 92) (n5 : c ≠ 42) (n6 : c ≠ 43) (hb9 : c ∈ brk) :
  Calls Tryz.prog 96 #[.pointer (some ⟨g,0,none⟩)] w (NPost s g o x w .atom p) := by
 have HM := Lib.hid hm;have HLT := Lib.hid h.lt;have H0 := Lib.hid (atM_start h)
 have HN0 := next_ch g s p o x _ (AtG.alloc h (.cells nodeZ 41)) (by omega) (by omega)
 have hp1 := ch_ge (s := s) (p := p) (by omega)
 obtain ⟨pi,hpi⟩ : ∃ pi : Int,pi = ((p + 1 : Nat) : Int) := ⟨_,rfl⟩
 have hpi2 : pi - 1 = (p : Int) := by omega
 have hpi3 : 0 ≤ pi - 1 := by omega
 have hpi4 : pi < 10000 := by omega
 have hl := ch_lt s p
 have HPP : Hid (P s .atom o p (.no 2 p)) := Lib.hid (by
  have h1 : atomF s p = .no 2 p := by
   unfold atomF;rw [hc,if_neg (by omega),if_neg n2,if_neg n3,if_neg n4,if_neg (by omega),if_pos hb9]
  have h2 : P s .atom o p (atomF s p) := P.plain (by omega)
  rw [h1] at h2;exact h2)
 rw [hc] at HN0 hl
 rw [← hpi] at HN0
 have HN0 := Lib.hid HN0
 have HB9 := Lib.hid hb9
 have e1 : (c == 40) = false := by rw [beq_eq_false_iff_ne];exact n1
 have e2 : (c == 91) = false := by rw [beq_eq_false_iff_ne];exact n2
 have e3 : (c == 46) = false := by rw [beq_eq_false_iff_ne];exact n3
 have e4 : (c == 92) = false := by rw [beq_eq_false_iff_ne];exact n4
 have e5 : (c == 42) = false := by rw [beq_eq_false_iff_ne];exact n5
 have e6 : (c == 43) = false := by rw [beq_eq_false_iff_ne];exact n6
 have hw8 : IntKind.u8.wrap c = c := by rw [IntKind.wrap_u8];omega
 have hmx : max c 0 = c := by omega
 have HC0 := Lib.hid h0;have HC1 := Lib.hid hl.2
 clear h hp hm hc hpi hp1 hb9 n1 n2 n3 n4 n5 n6 hl
 go_enter Tryz.func96,Tryz.ntmps96
 go_wp2_with fail
 refine (HN0.out).mono ?_
 rintro e9 w1 ⟨rfl,hA,hO⟩
 have HA1 := Lib.hid hA;have HO1 := Lib.hid hO
 clear hA hO
 have z1 : w1.cell? ⟨g,1,none⟩ = some (.int .i64 pi) := HA1.out.cell 1 _ rfl
 go_wp2_with fail
 refine (in_any c brkS _ (by decide)).mono ?_
 rintro e9 w9 ⟨b,rfl,hb,rfl⟩
 obtain rfl : b = true := by
  rw [hb,inT_bl,brkS_bl];exact HB9.out
 clear hb
 go_wp2_with fail
 refine (failO g s _ o x _ 2 _ HA1.out).mono ?_
 rintro e9 w2 ⟨rfl,hA2,hO2⟩
 have H2 := Lib.hid (H0.out.next (r' := .no 2 p) HLT.out (HO1.out.tr hO2) ⟨_,hA2⟩)
 clear hA2 hO2 z1
 go_wp2_with fail
 refine (refOf_oneI _ w2.heap.size (c) (HC0.out) (HC1.out) (AtG.new w2 _ _)).mono ?_
 rintro e9 wo ⟨rfl,hb⟩
 have HWO := Lib.hid ((H2.out.al (.cells #[.int .u8 (c)] 5)).below hb)
 clear hb
 go_wp2_with fail
 refine (one_any (fun y => y == (c : Int).toNat) _).mono ?_
 rintro e9 wn ⟨rfl,hb⟩
 have HN := Lib.hid (HWO.out.below hb)
 have HSZ := Lib.hid (show w.heap.size < wn.heap.size from HN.out.cell.lt)
 clear hb
 have d0 : wn.cell? ⟨w.heap.size,0,none⟩ = some (.int .i64 0) := (HN.out.cell).cell 0 _ rfl
 have d1 : wn.cell? ⟨w.heap.size,1,none⟩ = some (.int .u64 0) := (HN.out.cell).cell 1 _ rfl
 have d2 : wn.cell? ⟨w.heap.size,2,none⟩ = some (.int .u64 0) := (HN.out.cell).cell 2 _ rfl
 have d3 : wn.cell? ⟨w.heap.size,3,none⟩ = some (.int .u64 0) := (HN.out.cell).cell 3 _ rfl
 have d4 : wn.cell? ⟨w.heap.size,4,none⟩ = some (.int .u64 0) := (HN.out.cell).cell 4 _ rfl
 have d5 : wn.cell? ⟨w.heap.size,5,none⟩ = some (.int .i64 0) := (HN.out.cell).cell 5 _ rfl
 have d6 : wn.cell? ⟨w.heap.size,6,none⟩ = some (.int .i64 0) := (HN.out.cell).cell 6 _ rfl
 have d7 : wn.cell? ⟨w.heap.size,7,none⟩ = some (.slice none 0 0) := (HN.out.cell).cell 7 _ rfl
 have f0 := (HN.out.cell).frozen 0;have f1 := (HN.out.cell).frozen 1;have f2 := (HN.out.cell).frozen 2;have f3 := (HN.out.cell).frozen 3
 have f4 := (HN.out.cell).frozen 4;have f5 := (HN.out.cell).frozen 5;have f6 := (HN.out.cell).frozen 6;have f7 := (HN.out.cell).frozen 7
 unfold nodeV one
 dsimp only
 go_wp2_with fail
 refine bodyPost_ret (v := nodeV (one (fun y => y == (c : Int).toNat)) (.slice none 0 0)) (by simp [results,Tryz.results96,go_sem,d0,d1,d2,d3,d4,d5,d6,d7];try rfl) rfl ?_
 exact node_post (r := .no 2 p) HPP.out (StR.ununit HN.out.st) HN.out.only HLT.out HSZ.out (kat_one _ _ _ _ _ _) (fun _ _ h => by cases h)
set_option maxRecDepth 100000 in
set_option maxHeartbeats 1600000 in
theorem atom_lit (g : Nat) (s : ByteArray) (p o : Nat) (x : Int) (w : World) (h : AtG w g 114 (rdr s p o 0 x)) (hp : p ≤ s.size) (hm : s.size ≤ 1000) (c : Int) (hc : ch s p = c) (h0 : 0 ≤ c) (n1 : c ≠ 40) (n2 : c ≠ 91) (n3 : c ≠ 46) (n4 : c ≠ 92) (n5 : c ≠ 42) (n6 : c ≠ 43) (hb9 : c ∉ brk) :
  Calls Tryz.prog 96 #[.pointer (some ⟨g,0,none⟩)] w (NPost s g o x w .atom p) := by
 have HM := Lib.hid hm;have HLT := Lib.hid h.lt;have H0 := Lib.hid (atM_start h)
 have HN0 := next_ch g s p o x _ (AtG.alloc h (.cells nodeZ 41)) (by omega) (by omega)
 have hp1 := ch_ge (s := s) (p := p) (by omega)
 obtain ⟨pi,hpi⟩ : ∃ pi : Int,pi = ((p + 1 : Nat) : Int) := ⟨_,rfl⟩
 have hpi2 : pi - 1 = (p : Int) := by omega
 have hpi3 : 0 ≤ pi - 1 := by omega
 have hpi4 : pi < 10000 := by omega
 have hl := ch_lt s p
 have HPP : Hid (P s .atom o p (.ok (one fun y => y == c.toNat) (p + 1))) := Lib.hid (by
  have h1 : atomF s p = .ok (one fun y => y == c.toNat) (p + 1) := by
   unfold atomF;rw [hc,if_neg (by omega),if_neg n2,if_neg n3,if_neg n4,if_neg (by omega),if_neg hb9]
  have h2 : P s .atom o p (atomF s p) := P.plain (by omega)
  rw [h1] at h2;exact h2)
 rw [hc] at HN0 hl
 have HN0 := Lib.hid HN0
 have HB9 := Lib.hid hb9
 have e1 : (c == 40) = false := by rw [beq_eq_false_iff_ne];exact n1
 have e2 : (c == 91) = false := by rw [beq_eq_false_iff_ne];exact n2
 have e3 : (c == 46) = false := by rw [beq_eq_false_iff_ne];exact n3
 have e4 : (c == 92) = false := by rw [beq_eq_false_iff_ne];exact n4
 have e5 : (c == 42) = false := by rw [beq_eq_false_iff_ne];exact n5
 have e6 : (c == 43) = false := by rw [beq_eq_false_iff_ne];exact n6
 have hw8 : IntKind.u8.wrap c = c := by rw [IntKind.wrap_u8];omega
 have hmx : max c 0 = c := by omega
 have HC0 := Lib.hid h0;have HC1 := Lib.hid hl.2
 clear h hp hm hc hpi hp1 hb9 n1 n2 n3 n4 n5 n6 hl
 go_enter Tryz.func96,Tryz.ntmps96
 go_wp2_with fail
 refine (HN0.out).mono ?_
 rintro e9 w1 ⟨rfl,hA,hO⟩
 have H1 := Lib.hid (H0.out.next (r' := .ok () (p + 1)) HLT.out hO hA)
 clear hA hO
 go_wp2_with fail
 refine (in_any c brkS _ (by decide)).mono ?_
 rintro e9 w9 ⟨b,rfl,hb,rfl⟩
 obtain rfl : b = false := by
  rw [← Bool.not_eq_true,hb,inT_bl,brkS_bl];exact HB9.out
 clear hb
 go_wp2_with fail
 refine (refOf_oneI _ w9.heap.size (c) (HC0.out) (HC1.out) (AtG.new w9 _ _)).mono ?_
 rintro e9 wo ⟨rfl,hb⟩
 have HWO := Lib.hid ((H1.out.al (.cells #[.int .u8 (c)] 5)).below hb)
 clear hb
 go_wp2_with fail
 refine (one_any (fun y => y == (c : Int).toNat) _).mono ?_
 rintro e9 wn ⟨rfl,hb⟩
 have HN := Lib.hid (HWO.out.below hb)
 have HSZ := Lib.hid (show w.heap.size < wn.heap.size from HN.out.cell.lt)
 clear hb
 have d0 : wn.cell? ⟨w.heap.size,0,none⟩ = some (.int .i64 0) := (HN.out.cell).cell 0 _ rfl
 have d1 : wn.cell? ⟨w.heap.size,1,none⟩ = some (.int .u64 0) := (HN.out.cell).cell 1 _ rfl
 have d2 : wn.cell? ⟨w.heap.size,2,none⟩ = some (.int .u64 0) := (HN.out.cell).cell 2 _ rfl
 have d3 : wn.cell? ⟨w.heap.size,3,none⟩ = some (.int .u64 0) := (HN.out.cell).cell 3 _ rfl
 have d4 : wn.cell? ⟨w.heap.size,4,none⟩ = some (.int .u64 0) := (HN.out.cell).cell 4 _ rfl
 have d5 : wn.cell? ⟨w.heap.size,5,none⟩ = some (.int .i64 0) := (HN.out.cell).cell 5 _ rfl
 have d6 : wn.cell? ⟨w.heap.size,6,none⟩ = some (.int .i64 0) := (HN.out.cell).cell 6 _ rfl
 have d7 : wn.cell? ⟨w.heap.size,7,none⟩ = some (.slice none 0 0) := (HN.out.cell).cell 7 _ rfl
 have f0 := (HN.out.cell).frozen 0;have f1 := (HN.out.cell).frozen 1;have f2 := (HN.out.cell).frozen 2;have f3 := (HN.out.cell).frozen 3
 have f4 := (HN.out.cell).frozen 4;have f5 := (HN.out.cell).frozen 5;have f6 := (HN.out.cell).frozen 6;have f7 := (HN.out.cell).frozen 7
 unfold nodeV one
 dsimp only
 go_wp2_with fail
 refine bodyPost_ret (v := nodeV (one (fun y => y == (c : Int).toNat)) (.slice none 0 0)) (by simp [results,Tryz.results96,go_sem,d0,d1,d2,d3,d4,d5,d6,d7];try rfl) rfl ?_
 exact node_post (r := .ok (one fun y => y == c.toNat) (p + 1)) HPP.out (StR.ununit HN.out.st) HN.out.only HLT.out HSZ.out (kat_one _ _ _ _ _ _) (fun _ _ h => by injection h)
end Go.Proofs.YtgjcibhhffkemaaGreatDoor
namespace Go.Proofs.YtgjcibhhffkemaaGreatDoor
open Go.RowKit Bt
set_option maxRecDepth 100000 in
set_option maxHeartbeats 1600000 in
theorem atom_wide (g : Nat) (s : ByteArray) (p o : Nat) (x : Int) (w : World) (h : AtG w g 114 (rdr s p o 0 x)) (hp : p ≤ s.size) (hm : s.size ≤ 1000) (hc : ch s p = 92) (F : Nat → Bool) (hwd : wideF (ch s (p + 1)) = some F) :
  Calls Tryz.prog 96 #[.pointer (some ⟨g,0,none⟩)] w (NPost s g o x w .atom p) := by
 have HM := Lib.hid hm;have HLT := Lib.hid h.lt;have H0 := Lib.hid (atM_start h)
 have HN0 := next_ch g s p o x _ (AtG.alloc h (.cells nodeZ 41)) (by omega) (by omega)
 have hp1 := ch_ge (s := s) (p := p) (by omega)
 obtain ⟨pi,hpi⟩ : ∃ pi : Int,pi = ((p + 1 : Nat) : Int) := ⟨_,rfl⟩
 have hpi2 : pi - 1 = (p : Int) := by omega
 have hpi3 : 0 ≤ pi - 1 := by omega
 have hpi4 : pi < 10000 := by omega
 have HPP : Hid (P s .atom o p (.ok (one F) (p + 2))) := Lib.hid (by
  have h1 : atomF s p = .ok (one F) (p + 2) := by unfold atomF;rw [hc,if_neg (by decide),if_neg (by decide),if_neg (by decide),if_pos rfl,hwd]
  have h2 : P s .atom o p (atomF s p) := P.plain (by omega)
  rw [h1] at h2;exact h2)
 rw [hc] at HN0
 rw [← hpi] at HN0
 have HN0 := Lib.hid HN0
 have HPK := Lib.hid (fun w h => peek_any g s (p + 1) o x w h)
 have hV : wideV (ch s (p + 1)) = .tuple #[setOf F,.bool true] := by unfold wideV;rw [hwd]
 have HWD : Hid (∀ w,Calls Tryz.prog 111 #[.int .i64 (ch s (p + 1))] w fun e w' => e = .returned (.tuple #[setOf F,.bool true]) ∧ Below w.heap.size w w') := Lib.hid (fun w => by rw [← hV];exact wide_any _ w)
 have HP1 := Lib.hid hp1;have HPI := Lib.hid hpi
 rw [← hpi] at HPK
 clear h hp hm hc hpi hp1 hwd hV
 generalize ch s (p + 1) = d at *
 go_enter Tryz.func96,Tryz.ntmps96
 go_wp2_with fail
 refine (HN0.out).mono ?_
 rintro e9 w1 ⟨rfl,hA,hO⟩
 have HA1 := Lib.hid hA;have HO1 := Lib.hid (H0.out.next (r' := .ok () (p + 1)) HLT.out hO (by rw [HPI.out] at hA;exact hA))
 clear hA hO
 go_wp2_with fail
 refine (HPK.out _ HA1.out).mono ?_
 rintro e9 w2 ⟨rfl,hb⟩
 have HA2 := Lib.hid (HA1.out.below hb);have H2 := Lib.hid (HO1.out.below hb)
 clear hb
 go_wp2_with fail
 refine (HWD.out _).mono ?_
 rintro e9 w3 ⟨rfl,hb⟩
 have HA3 := Lib.hid (HA2.out.below hb);have H3 := Lib.hid (H2.out.below hb)
 have hg3 := HA3.out.lt
 clear hb
 have z1 : w3.cell? ⟨g,1,none⟩ = some (.int .i64 pi) := HA3.out.cell 1 _ rfl
 have f1 := HA3.out.frozen 1
 have HPI2 : Hid (((p + 2 : Nat) : Int) = pi + 1) := Lib.hid (by have := HPI.out;omega)
 have H5 := Lib.hid ((H3.out.next (r' := .ok () (p + 2)) (o' := o) HLT.out ((Only.refl (S := fun k => k = g) w3).st g 1 (.int .i64 (pi + 1)) (.inl rfl)) (by show AtG _ g _ (rdr s ((p + 2 : Nat) : Int) o 0 x);rw [HPI2.out];exact HA3.out.set 1 (.int .i64 (pi + 1)))).al (.cells (cellsOf F) 38))
 unfold setOf
 go_wp2_with fail
 refine (one_any (F) _).mono ?_
 rintro e9 wn ⟨rfl,hb⟩
 have HN := Lib.hid (H5.out.below hb)
 have HSZ := Lib.hid (show w.heap.size < wn.heap.size from HN.out.cell.lt)
 clear hb
 have d0 : wn.cell? ⟨w.heap.size,0,none⟩ = some (.int .i64 0) := (HN.out.cell).cell 0 _ rfl
 have d1 : wn.cell? ⟨w.heap.size,1,none⟩ = some (.int .u64 0) := (HN.out.cell).cell 1 _ rfl
 have d2 : wn.cell? ⟨w.heap.size,2,none⟩ = some (.int .u64 0) := (HN.out.cell).cell 2 _ rfl
 have d3 : wn.cell? ⟨w.heap.size,3,none⟩ = some (.int .u64 0) := (HN.out.cell).cell 3 _ rfl
 have d4 : wn.cell? ⟨w.heap.size,4,none⟩ = some (.int .u64 0) := (HN.out.cell).cell 4 _ rfl
 have d5 : wn.cell? ⟨w.heap.size,5,none⟩ = some (.int .i64 0) := (HN.out.cell).cell 5 _ rfl
 have d6 : wn.cell? ⟨w.heap.size,6,none⟩ = some (.int .i64 0) := (HN.out.cell).cell 6 _ rfl
 have d7 : wn.cell? ⟨w.heap.size,7,none⟩ = some (.slice none 0 0) := (HN.out.cell).cell 7 _ rfl
 have f0 := (HN.out.cell).frozen 0;have f1 := (HN.out.cell).frozen 1;have f2 := (HN.out.cell).frozen 2;have f3 := (HN.out.cell).frozen 3
 have f4 := (HN.out.cell).frozen 4;have f5 := (HN.out.cell).frozen 5;have f6 := (HN.out.cell).frozen 6;have f7 := (HN.out.cell).frozen 7
 unfold nodeV one
 dsimp only
 go_wp2_with fail
 refine bodyPost_ret (v := nodeV (one (F)) (.slice none 0 0)) (by simp [results,Tryz.results96,go_sem,d0,d1,d2,d3,d4,d5,d6,d7];try rfl) rfl ?_
 exact node_post (r := .ok (one F) (p + 2)) HPP.out (StR.ununit HN.out.st) HN.out.only HLT.out HSZ.out (kat_one _ _ _ _ _ _) (fun _ _ h => by injection h)
set_option maxRecDepth 100000 in
set_option maxHeartbeats 1600000 in
theorem atom_esc (g : Nat) (s : ByteArray) (p o : Nat) (x : Int) (w : World) (h : AtG w g 114 (rdr s p o 0 x)) (hp : p ≤ s.size) (hm : s.size ≤ 1000) (hc : ch s p = 92) (hwd : wideF (ch s (p + 1)) = none) :
  Calls Tryz.prog 96 #[.pointer (some ⟨g,0,none⟩)] w (NPost s g o x w .atom p) := by
 have HM := Lib.hid hm;have HLT := Lib.hid h.lt;have H0 := Lib.hid (atM_start h)
 have HN0 := next_ch g s p o x _ (AtG.alloc h (.cells nodeZ 41)) (by omega) (by omega)
 have hp1 := ch_ge (s := s) (p := p) (by omega)
 obtain ⟨pi,hpi⟩ : ∃ pi : Int,pi = ((p + 1 : Nat) : Int) := ⟨_,rfl⟩
 have hpi2 : pi - 1 = (p : Int) := by omega
 have hpi3 : 0 ≤ pi - 1 := by omega
 have hpi4 : pi < 10000 := by omega
 have HPP : Hid (P s .atom o p ((escF s (p + 1)).map fun c => one (fun y => y == c))) := Lib.hid (by
  have h1 : atomF s p = (escF s (p + 1)).map fun c => one (fun y => y == c) := by unfold atomF;rw [hc,if_neg (by decide),if_neg (by decide),if_neg (by decide),if_pos rfl,hwd]
  have h2 : P s .atom o p (atomF s p) := P.plain (by omega)
  rw [h1] at h2;exact h2)
 rw [hc] at HN0
 rw [← hpi] at HN0
 have HN0 := Lib.hid HN0
 have HPK := Lib.hid (fun w h => peek_any g s (p + 1) o x w h)
 have hV : wideV (ch s (p + 1)) = .tuple #[setOf emp,.bool false] := by unfold wideV;rw [hwd]
 have HWD : Hid (∀ w,Calls Tryz.prog 111 #[.int .i64 (ch s (p + 1))] w fun e w' => e = .returned (.tuple #[setOf emp,.bool false]) ∧ Below w.heap.size w w') := Lib.hid (fun w => by rw [← hV];exact wide_any _ w)
 have HP1 := Lib.hid hp1;have HPI := Lib.hid hpi
 rw [← hpi] at HPK
 have HES := Lib.hid (fun w h => escaped_any g s (p + 1) o x w h hp1 hm)
 rw [← hpi] at HES
 clear h hp hm hc hpi hp1 hwd hV
 generalize ch s (p + 1) = d at *
 go_enter Tryz.func96,Tryz.ntmps96
 go_wp2_with fail
 refine (HN0.out).mono ?_
 rintro e9 w1 ⟨rfl,hA,hO⟩
 have HA1 := Lib.hid hA;have HO1 := Lib.hid (H0.out.next (r' := .ok () (p + 1)) HLT.out hO (by rw [HPI.out] at hA;exact hA))
 clear hA hO
 go_wp2_with fail
 refine (HPK.out _ HA1.out).mono ?_
 rintro e9 w2 ⟨rfl,hb⟩
 have HA2 := Lib.hid (HA1.out.below hb);have H2 := Lib.hid (HO1.out.below hb)
 clear hb
 go_wp2_with fail
 refine (HWD.out _).mono ?_
 rintro e9 w3 ⟨rfl,hb⟩
 have HA3 := Lib.hid (HA2.out.below hb);have H3 := Lib.hid (H2.out.below hb)
 have hg3 := HA3.out.lt
 clear hb
 have HA4 := Lib.hid (HA3.out.alloc (.cells (cellsOf emp) 38));have H4 := Lib.hid (H3.out.al (.cells (cellsOf emp) 38))
 unfold setOf
 go_wp2_with fail
 refine (HES.out _ HA4.out).mono ?_
 rintro e9 w5 ⟨hO5,hS,v,hv,rfl,hq⟩
 have H5 := Lib.hid (H4.out.next (r' := ((escF s (p + 1)).map fun c => one (fun y => y == c)).unit) HLT.out hO5 (StR.unit (StR.map _ hS)))
 have hv0 : (0 : Int) ≤ (v : Int) := by omega
 have hv1 : (v : Int) < 256 := by omega
 have HV0 := Lib.hid hv0;have HV1 := Lib.hid hv1;have HQ := Lib.hid hq
 clear hO5 hS hv hq hv0 hv1
 go_wp2_with fail
 refine (refOf_oneI _ w5.heap.size ((v : Int)) (HV0.out) (HV1.out) (AtG.new w5 _ _)).mono ?_
 rintro e9 wo ⟨rfl,hb⟩
 have HWO := Lib.hid ((H5.out.al (.cells #[.int .u8 ((v : Int))] 5)).below hb)
 clear hb
 go_wp2_with fail
 refine (one_any (fun y => y == ((v : Int) : Int).toNat) _).mono ?_
 rintro e9 wn ⟨rfl,hb⟩
 have HN := Lib.hid (HWO.out.below hb)
 have HSZ := Lib.hid (show w.heap.size < wn.heap.size from HN.out.cell.lt)
 clear hb
 have d0 : wn.cell? ⟨w.heap.size,0,none⟩ = some (.int .i64 0) := (HN.out.cell).cell 0 _ rfl
 have d1 : wn.cell? ⟨w.heap.size,1,none⟩ = some (.int .u64 0) := (HN.out.cell).cell 1 _ rfl
 have d2 : wn.cell? ⟨w.heap.size,2,none⟩ = some (.int .u64 0) := (HN.out.cell).cell 2 _ rfl
 have d3 : wn.cell? ⟨w.heap.size,3,none⟩ = some (.int .u64 0) := (HN.out.cell).cell 3 _ rfl
 have d4 : wn.cell? ⟨w.heap.size,4,none⟩ = some (.int .u64 0) := (HN.out.cell).cell 4 _ rfl
 have d5 : wn.cell? ⟨w.heap.size,5,none⟩ = some (.int .i64 0) := (HN.out.cell).cell 5 _ rfl
 have d6 : wn.cell? ⟨w.heap.size,6,none⟩ = some (.int .i64 0) := (HN.out.cell).cell 6 _ rfl
 have d7 : wn.cell? ⟨w.heap.size,7,none⟩ = some (.slice none 0 0) := (HN.out.cell).cell 7 _ rfl
 have f0 := (HN.out.cell).frozen 0;have f1 := (HN.out.cell).frozen 1;have f2 := (HN.out.cell).frozen 2;have f3 := (HN.out.cell).frozen 3
 have f4 := (HN.out.cell).frozen 4;have f5 := (HN.out.cell).frozen 5;have f6 := (HN.out.cell).frozen 6;have f7 := (HN.out.cell).frozen 7
 unfold nodeV one
 dsimp only
 go_wp2_with fail
 refine bodyPost_ret (v := nodeV (one (fun y => y == ((v : Int) : Int).toNat)) (.slice none 0 0)) (by simp [results,Tryz.results96,go_sem,d0,d1,d2,d3,d4,d5,d6,d7];try rfl) rfl ?_
 exact node_post (r := (escF s (p + 1)).map fun c => one (fun y => y == c)) HPP.out (StR.ununit HN.out.st) HN.out.only HLT.out HSZ.out (kat_one _ _ _ _ _ _) (fun t' q' h => by cases hes : escF s (p + 1) with | ok a q => rw [hes] at h;have := HQ.out a q hes;subst this;injection h | no c y => rw [hes] at h;cases h)
end Go.Proofs.YtgjcibhhffkemaaGreatDoor
namespace Go.Proofs.YtgjcibhhffkemaaGreatDoor
open Go.RowKit Bt
theorem wd_emp (i : Nat) : ((wd emp i : Nat) : Int) = 0 := by unfold emp;rw [wd_none];rfl
set_option maxRecDepth 100000 in
set_option maxHeartbeats 1600000 in
theorem atom_deep (g : Nat) (s : ByteArray) (p o : Nat) (x : Int) (w : World) (h : AtG w g 114 (rdr s p o 0 x)) (hp : p ≤ s.size) (hm : s.size ≤ 1000) (hc : ch s p = 40) (ho : o = 20) :
  Calls Tryz.prog 96 #[.pointer (some ⟨g,0,none⟩)] w (NPost s g o x w .atom p) := by
 have HM := Lib.hid hm;have HLT := Lib.hid h.lt;have H0 := Lib.hid (atM_start h)
 have HN0 := next_ch g s p o x _ (AtG.alloc h (.cells nodeZ 41)) (by omega) (by omega)
 have hp1 := ch_ge (s := s) (p := p) (by omega)
 obtain ⟨pi,hpi⟩ : ∃ pi : Int,pi = ((p + 1 : Nat) : Int) := ⟨_,rfl⟩
 have hpi2 : pi - 1 = (p : Int) := by omega
 have hpi3 : 0 ≤ pi - 1 := by omega
 have hpi4 : pi < 10000 := by omega
 have HPP : Hid (P s .atom o p (.no 4 p)) := Lib.hid (P.deep hc ho)
 subst ho
 rw [hc] at HN0
 rw [← hpi] at HN0
 have HN0 := Lib.hid HN0
 clear h hp hm hc hpi hp1
 go_enter Tryz.func96,Tryz.ntmps96
 go_wp2_with fail
 refine (HN0.out).mono ?_
 rintro e9 w1 ⟨rfl,hA,hO⟩
 have HA1 := Lib.hid hA;have HO1 := Lib.hid hO
 clear hA hO
 have z1 : w1.cell? ⟨g,1,none⟩ = some (.int .i64 pi) := HA1.out.cell 1 _ rfl
 have z2 : w1.cell? ⟨g,2,none⟩ = some (.int .i64 20) := HA1.out.cell 2 _ rfl
 go_wp2_with fail
 refine (failO g s _ _ x _ 4 _ HA1.out).mono ?_
 rintro e9 wn ⟨rfl,hA2,hO2⟩
 have HN := Lib.hid (H0.out.next (r' := .no 4 p) HLT.out (HO1.out.tr hO2) ⟨_,hA2⟩)
 have HSZ := Lib.hid (show w.heap.size < wn.heap.size from HN.out.cell.lt)
 clear hA2 hO2 z1 z2
 have d0 : wn.cell? ⟨w.heap.size,0,none⟩ = some (.int .i64 0) := (HN.out.cell).cell 0 _ rfl
 have d1 : wn.cell? ⟨w.heap.size,1,none⟩ = some (.int .u64 0) := (HN.out.cell).cell 1 _ rfl
 have d2 : wn.cell? ⟨w.heap.size,2,none⟩ = some (.int .u64 0) := (HN.out.cell).cell 2 _ rfl
 have d3 : wn.cell? ⟨w.heap.size,3,none⟩ = some (.int .u64 0) := (HN.out.cell).cell 3 _ rfl
 have d4 : wn.cell? ⟨w.heap.size,4,none⟩ = some (.int .u64 0) := (HN.out.cell).cell 4 _ rfl
 have d5 : wn.cell? ⟨w.heap.size,5,none⟩ = some (.int .i64 0) := (HN.out.cell).cell 5 _ rfl
 have d6 : wn.cell? ⟨w.heap.size,6,none⟩ = some (.int .i64 0) := (HN.out.cell).cell 6 _ rfl
 have d7 : wn.cell? ⟨w.heap.size,7,none⟩ = some (.slice none 0 0) := (HN.out.cell).cell 7 _ rfl
 have f0 := (HN.out.cell).frozen 0;have f1 := (HN.out.cell).frozen 1;have f2 := (HN.out.cell).frozen 2;have f3 := (HN.out.cell).frozen 3
 have f4 := (HN.out.cell).frozen 4;have f5 := (HN.out.cell).frozen 5;have f6 := (HN.out.cell).frozen 6;have f7 := (HN.out.cell).frozen 7
 go_wp2_with fail
 refine bodyPost_ret (v := nodeV (.node 0 emp 0 0 []) (.slice none 0 0)) (by unfold nodeV;simp [results,Tryz.results96,go_sem,wd_emp,d0,d1,d2,d3,d4,d5,d6,d7];try rfl) rfl ?_
 have hfin := node_post (r := .no 4 p) (op := 0) (f := emp) (mn := 0) (mx := 0) (kids := []) (kv := .slice none 0 0) HPP.out (StR.ununit HN.out.st) HN.out.only HLT.out HSZ.out (kat_one _ _ _ _ _ _) (fun _ _ h => by cases h)
 unfold putN at hfin
 rw [wd_emp,wd_emp,wd_emp,wd_emp] at hfin
 exact hfin
def PatC (s : ByteArray) (g : Nat) (x : Int) (p0 : Nat) : Prop := ∀ p,p0 ≤ p → p ≤ s.size → ∀ o : Nat,o ≤ 20 → ∀ w,AtG w g 114 (rdr s (p : Int) (o : Int) 0 x) → Calls Tryz.prog 49 #[.pointer (some ⟨g,0,none⟩)] w (NPost s g o x w .pat p)
theorem StR.g {α : Type} {s : ByteArray} {g : Nat} {o x : Int} {r : Re α} {w : World} (h : StR s g o x r w) : ∃ p c y,AtG w g 114 (rdr s p o c y) := by
 cases r with
 | ok a q => exact ⟨_,_,_,h⟩
 | no c y => obtain ⟨p,h⟩ := h;exact ⟨p,_,_,h⟩
theorem StR.open' {α : Type} {s : ByteArray} {g : Nat} {o o' x : Int} {r : Re α} {w : World} (h : StR s g o x r w) : StR s g o' x r (w.setCell ⟨g,2,none⟩ (.int .i64 o')) := by
 cases r with
 | ok a q => exact AtG.set h 2 _
 | no c y => obtain ⟨p,h⟩ := h;exact ⟨p,h.set 2 _⟩
set_option maxRecDepth 100000 in
set_option maxHeartbeats 1600000 in
theorem atom_sub (g : Nat) (s : ByteArray) (p o : Nat) (x : Int) (w : World) (h : AtG w g 114 (rdr s p o 0 x)) (hp : p ≤ s.size) (hm : s.size ≤ 1000) (hc : ch s p = 40) (ho : o ≠ 20) (ho2 : o ≤ 20) (hpat : PatC s g x (p + 1)) :
  Calls Tryz.prog 96 #[.pointer (some ⟨g,0,none⟩)] w (NPost s g o x w .atom p) := by
 have HM := Lib.hid hm;have HLT := Lib.hid h.lt;have H0 := Lib.hid (atM_start h)
 have HN0 := next_ch g s p o x _ (AtG.alloc h (.cells nodeZ 41)) (by omega) (by omega)
 have hp1 := ch_ge (s := s) (p := p) (by omega)
 obtain ⟨pi,hpi⟩ : ∃ pi : Int,pi = ((p + 1 : Nat) : Int) := ⟨_,rfl⟩
 have hpi2 : pi - 1 = (p : Int) := by omega
 have hpi3 : 0 ≤ pi - 1 := by omega
 have hpi4 : pi < 10000 := by omega
 have HP40 := Lib.hid hc
 have HOD := Lib.hid ho;have HO20 := Lib.hid ho2
 rw [hc] at HN0
 rw [← hpi] at HN0
 obtain ⟨oi,hoi⟩ : ∃ oi : Int,oi = (o : Int) := ⟨_,rfl⟩
 obtain ⟨oj,hoj⟩ : ∃ oj : Int,oj = ((o + 1 : Nat) : Int) := ⟨_,rfl⟩
 rw [← hoi] at HN0
 have ho3 : oi + 1 = oj := by omega
 have ho4 : oj - 1 = oi := by omega
 have e20 : (oi == 20) = false := by rw [beq_eq_false_iff_ne];omega
 have ho5 : 0 ≤ oi := by omega
 have ho6 : oi < 20 := by omega
 have hpatw := fun w h => hpat (p + 1) (Nat.le_refl _) hp1 (o + 1) (by omega) w h
 rw [← hpi,← hoj] at hpatw
 have HPAT := Lib.hid hpatw
 have HN0 := Lib.hid HN0
 have HPI := Lib.hid hpi;have HOI := Lib.hid hoi;have HOJ := Lib.hid hoj;have HP1 := Lib.hid hp1
 clear h hp hm hc hpi hp1 ho ho2 hoi hoj hpat hpatw
 go_enter Tryz.func96,Tryz.ntmps96
 go_wp2_with fail
 refine (HN0.out).mono ?_
 rintro e9 w1 ⟨rfl,hA,hO⟩
 have HA1 := Lib.hid hA;have HO1 := Lib.hid hO
 clear hA hO
 have z2 : w1.cell? ⟨g,2,none⟩ = some (.int .i64 oi) := HA1.out.cell 2 _ rfl
 have x2 := HA1.out.frozen 2
 have HA2 := Lib.hid (show AtG (w1.setCell ⟨g,2,none⟩ (.int .i64 oj)) g 114 (rdr s pi oj 0 x) from HA1.out.set 2 _)
 have HO2 := Lib.hid (HO1.out.st g 2 (.int .i64 oj) (.inl rfl))
 go_wp2_with fail
 refine (HPAT.out _ HA2.out).mono ?_
 rintro e9 w3 ⟨t,kv,rfl,hK,hO,r,hPr,hS,hi⟩
 obtain ⟨op,f,mn,mx,kids⟩ := t
 obtain ⟨ka,kc,rfl⟩ := KAt.slice hK
 obtain ⟨kn,hkn⟩ : ∃ kn,kn = kids.length := ⟨_,rfl⟩
 rw [← hkn] at hK ⊢
 clear hkn
 have hO13 := HO2.out.tr hO
 have hsz2 : w.heap.size + 1 ≤ (w1.setCell ⟨g,2,none⟩ (.int .i64 oj)).heap.size := by
  have := HO1.out.size;simp at this ⊢;omega
 have hsz3 := hO.size
 obtain ⟨cs,hcs⟩ : ∃ cs : Array Value,cs = #[.int .i64 op,.int .u64 ((wd f 0 : Nat) : Int),.int .u64 ((wd f 1 : Nat) : Int),.int .u64 ((wd f 2 : Nat) : Int),.int .u64 ((wd f 3 : Nat) : Int),.int .i64 mn,.int .i64 mx,.slice ka kn kc] := ⟨_,rfl⟩
 have h3 : AtM s g oj x r.unit w w3 := by rw [HOJ.out];exact H0.out.next (o' := ((o + 1 : Nat) : Int)) HLT.out hO13 (StR.unit hS)
 have H4 := Lib.hid (h3.al (.cells cs 41))
 have HK4 : Hid (KAt (Iv (w.heap.size + 1) (w3.alloc (.cells cs 41)).heap.size) (w3.alloc (.cells cs 41)) (.node op f mn mx kids) (.slice ka kn kc)) := Lib.hid
  (KAt.keep (fun b hb => ((Below.refl w3.heap.size w3).alloc (Nat.le_refl _) _).block b hb.2) (fun b hb => ⟨Nat.le_trans hsz2 hb.1,by have := hb.2;simp;omega⟩) _ _ hK)
 have HC4 := Lib.hid (AtG.new w3 41 cs)
 have HNE : Hid (w3.heap.size ≠ g ∧ g ≠ w3.heap.size ∧ w3.heap.size ≠ w.heap.size ∧ w.heap.size ≠ w3.heap.size) := Lib.hid (by
  have := HLT.out;omega)
 have HPR := Lib.hid hPr;have HI := Lib.hid hi
 have HPP : Hid (P s .atom o p (closeF s r)) := Lib.hid (P.sub HP40.out HOD.out hPr)
 have hrin := P.in hPr HP1.out
 have HRIN := Lib.hid hrin
 clear hK hO hO13 hsz2 hsz3 h3 hPr hS hi z2 x2 hrin
 subst hcs
 unfold nodeV
 dsimp only
 cases r with
 | no c y =>
  obtain ⟨pb,hS⟩ := H4.out.st
  have hcc : c ≠ 0 := by have := HRIN.out.1;omega
  have HS := Lib.hid hS;have HCC := Lib.hid hcc
  clear hS hcc
  go_wp2_with fail
  refine (next_bad g s pb oj c y _ HS.out HCC.out).mono ?_
  rintro e9 w5 ⟨rfl,hb⟩
  have HS5 := Lib.hid (HS.out.below hb);have H5 := Lib.hid (H4.out.below hb);have HC5 := Lib.hid (HC4.out.below hb);have HK5 := Lib.hid (KAt.below HK4.out hb hb.size)
  have z1 : w5.cell? ⟨g,1,none⟩ = some (.int .i64 pb) := HS5.out.cell 1 _ rfl
  clear hb
  go_wp2_with fail
  refine (fail_no g s pb oj c y _ 2 _ HS5.out HCC.out).mono ?_
  rintro e9 w6 ⟨rfl,rfl⟩
  obtain ⟨pq,cq,yq,HAq⟩ := StR.g H5.out.st
  have z2 : w6.cell? ⟨g,2,none⟩ = some (.int .i64 oj) := HAq.cell 2 _ rfl
  have x2 := HAq.frozen 2
  clear HAq pq cq yq
  have k0 : w6.cell? ⟨w3.heap.size,0,none⟩ = some (.int .i64 op) := HC5.out.cell 0 _ rfl
  have k1 : w6.cell? ⟨w3.heap.size,1,none⟩ = some (.int .u64 ((wd f 0 : Nat) : Int)) := HC5.out.cell 1 _ rfl
  have k2 : w6.cell? ⟨w3.heap.size,2,none⟩ = some (.int .u64 ((wd f 1 : Nat) : Int)) := HC5.out.cell 2 _ rfl
  have k3 : w6.cell? ⟨w3.heap.size,3,none⟩ = some (.int .u64 ((wd f 2 : Nat) : Int)) := HC5.out.cell 3 _ rfl
  have k4 : w6.cell? ⟨w3.heap.size,4,none⟩ = some (.int .u64 ((wd f 3 : Nat) : Int)) := HC5.out.cell 4 _ rfl
  have k5 : w6.cell? ⟨w3.heap.size,5,none⟩ = some (.int .i64 mn) := HC5.out.cell 5 _ rfl
  have k6 : w6.cell? ⟨w3.heap.size,6,none⟩ = some (.int .i64 mx) := HC5.out.cell 6 _ rfl
  have k7 : w6.cell? ⟨w3.heap.size,7,none⟩ = some (.slice ka kn kc) := HC5.out.cell 7 _ rfl
  have HN := Lib.hid (H5.out.next (o' := o) HLT.out ((Only.refl (S := fun k => k = g) _).st g 2 (.int .i64 oi) (.inl rfl)) (by have := StR.open' (o' := oi) H5.out.st;rw [HOI.out] at this ⊢;exact this))
  have HSZ := Lib.hid (show w.heap.size < (w6.setCell ⟨g,2,none⟩ (.int .i64 oi)).heap.size from HN.out.cell.lt)
  have HKN := Lib.hid (KAt.only HK5.out ((Only.refl (S := fun k => k = g) w6).st g 2 (.int .i64 oi) (.inl rfl)) (fun b hb => ⟨hb.2,by have := hb.1;have := HLT.out;show ¬ (b = g);omega⟩))
  have d0 : w6.cell? ⟨w.heap.size,0,none⟩ = some (.int .i64 0) := (H5.out.cell).cell 0 _ rfl
  have d1 : w6.cell? ⟨w.heap.size,1,none⟩ = some (.int .u64 0) := (H5.out.cell).cell 1 _ rfl
  have d2 : w6.cell? ⟨w.heap.size,2,none⟩ = some (.int .u64 0) := (H5.out.cell).cell 2 _ rfl
  have d3 : w6.cell? ⟨w.heap.size,3,none⟩ = some (.int .u64 0) := (H5.out.cell).cell 3 _ rfl
  have d4 : w6.cell? ⟨w.heap.size,4,none⟩ = some (.int .u64 0) := (H5.out.cell).cell 4 _ rfl
  have d5 : w6.cell? ⟨w.heap.size,5,none⟩ = some (.int .i64 0) := (H5.out.cell).cell 5 _ rfl
  have d6 : w6.cell? ⟨w.heap.size,6,none⟩ = some (.int .i64 0) := (H5.out.cell).cell 6 _ rfl
  have d7 : w6.cell? ⟨w.heap.size,7,none⟩ = some (.slice none 0 0) := (H5.out.cell).cell 7 _ rfl
  have f0 := (H5.out.cell).frozen 0;have f1 := (H5.out.cell).frozen 1;have f2 := (H5.out.cell).frozen 2;have f3 := (H5.out.cell).frozen 3
  have f4 := (H5.out.cell).frozen 4;have f5 := (H5.out.cell).frozen 5;have f6 := (H5.out.cell).frozen 6;have f7 := (H5.out.cell).frozen 7
  have hn3 := HNE.out.1;have hn4 := HNE.out.2.1;have hn5 := HNE.out.2.2.1;have hn6 := HNE.out.2.2.2
  have hn7 : w.heap.size ≠ g := by have := HLT.out;omega
  have hn8 : g ≠ w.heap.size := by have := HLT.out;omega
  go_wp2_with fail
  refine bodyPost_ret (v := nodeV (.node op f mn mx kids) (.slice ka kn kc)) (by unfold nodeV;simp [results,Tryz.results96,go_sem,d0,d1,d2,d3,d4,d5,d6,d7,hn3,hn4,hn5,hn6,hn7,hn8];try rfl) rfl ?_
  exact node_post (r := .no c y) HPP.out (StR.ununit HN.out.st) HN.out.only HLT.out HSZ.out (by have := HKN.out;simpa using this) (fun _ _ h => by cases h)
 | ok t' q =>
  have hi := HI.out t' q rfl
  subst hi
  have hS : AtG (w3.alloc (.cells #[.int .i64 op,.int .u64 ((wd f 0 : Nat) : Int),.int .u64 ((wd f 1 : Nat) : Int),.int .u64 ((wd f 2 : Nat) : Int),.int .u64 ((wd f 3 : Nat) : Int),.int .i64 mn,.int .i64 mx,.slice ka kn kc] 41)) g 114 (rdr s (q : Int) oj 0 x) := H4.out.st
  have HS := Lib.hid hS
  have hq := HRIN.out.2
  clear hS
  by_cases hc : ch s q < 0
  ·have HN1 := Lib.hid (next_no g s q oj x _ HS.out hq hc)
   have HR : Hid (closeF s (.ok (.node op f mn mx kids) q) = .no 2 q) := Lib.hid (by rw [closeF,if_neg (by omega)])
   rw [HR.out] at HPP
   clear hc hq
   go_wp2_with fail
   refine (HN1.out).mono ?_
   rintro e9 w5 ⟨rfl,hA,hO⟩
   have HS5 := Lib.hid hA;have H5 := Lib.hid (H4.out.next (r' := .no 2 q) HLT.out hO ⟨_,hA⟩);have HC5 := Lib.hid (HC4.out.only hO HNE.out.1)
   have HK5 := Lib.hid (KAt.mono (KAt.only HK4.out hO (fun b hb => ⟨hb.2,by have := hb.1;have := HLT.out;show ¬ (b = g);omega⟩)) (D' := Iv (w.heap.size + 1) w5.heap.size) (fun b hb => ⟨hb.1,Nat.lt_of_lt_of_le hb.2 hO.size⟩))
   have z1 : w5.cell? ⟨g,1,none⟩ = some (.int .i64 (q : Int)) := HS5.out.cell 1 _ rfl
   clear hA hO
   go_wp2_with fail
   refine (fail_no g s _ oj 2 _ _ 2 _ HS5.out (by decide)).mono ?_
   rintro e9 w6 ⟨rfl,rfl⟩
   obtain ⟨pq,cq,yq,HAq⟩ := StR.g H5.out.st
   have z2 : w6.cell? ⟨g,2,none⟩ = some (.int .i64 oj) := HAq.cell 2 _ rfl
   have x2 := HAq.frozen 2
   clear HAq pq cq yq
   have k0 : w6.cell? ⟨w3.heap.size,0,none⟩ = some (.int .i64 op) := HC5.out.cell 0 _ rfl
   have k1 : w6.cell? ⟨w3.heap.size,1,none⟩ = some (.int .u64 ((wd f 0 : Nat) : Int)) := HC5.out.cell 1 _ rfl
   have k2 : w6.cell? ⟨w3.heap.size,2,none⟩ = some (.int .u64 ((wd f 1 : Nat) : Int)) := HC5.out.cell 2 _ rfl
   have k3 : w6.cell? ⟨w3.heap.size,3,none⟩ = some (.int .u64 ((wd f 2 : Nat) : Int)) := HC5.out.cell 3 _ rfl
   have k4 : w6.cell? ⟨w3.heap.size,4,none⟩ = some (.int .u64 ((wd f 3 : Nat) : Int)) := HC5.out.cell 4 _ rfl
   have k5 : w6.cell? ⟨w3.heap.size,5,none⟩ = some (.int .i64 mn) := HC5.out.cell 5 _ rfl
   have k6 : w6.cell? ⟨w3.heap.size,6,none⟩ = some (.int .i64 mx) := HC5.out.cell 6 _ rfl
   have k7 : w6.cell? ⟨w3.heap.size,7,none⟩ = some (.slice ka kn kc) := HC5.out.cell 7 _ rfl
   have HN := Lib.hid (H5.out.next (o' := o) HLT.out ((Only.refl (S := fun k => k = g) _).st g 2 (.int .i64 oi) (.inl rfl)) (by have := StR.open' (o' := oi) H5.out.st;rw [HOI.out] at this ⊢;exact this))
   have HSZ := Lib.hid (show w.heap.size < (w6.setCell ⟨g,2,none⟩ (.int .i64 oi)).heap.size from HN.out.cell.lt)
   have HKN := Lib.hid (KAt.only HK5.out ((Only.refl (S := fun k => k = g) w6).st g 2 (.int .i64 oi) (.inl rfl)) (fun b hb => ⟨hb.2,by have := hb.1;have := HLT.out;show ¬ (b = g);omega⟩))
   have d0 : w6.cell? ⟨w.heap.size,0,none⟩ = some (.int .i64 0) := (H5.out.cell).cell 0 _ rfl
   have d1 : w6.cell? ⟨w.heap.size,1,none⟩ = some (.int .u64 0) := (H5.out.cell).cell 1 _ rfl
   have d2 : w6.cell? ⟨w.heap.size,2,none⟩ = some (.int .u64 0) := (H5.out.cell).cell 2 _ rfl
   have d3 : w6.cell? ⟨w.heap.size,3,none⟩ = some (.int .u64 0) := (H5.out.cell).cell 3 _ rfl
   have d4 : w6.cell? ⟨w.heap.size,4,none⟩ = some (.int .u64 0) := (H5.out.cell).cell 4 _ rfl
   have d5 : w6.cell? ⟨w.heap.size,5,none⟩ = some (.int .i64 0) := (H5.out.cell).cell 5 _ rfl
   have d6 : w6.cell? ⟨w.heap.size,6,none⟩ = some (.int .i64 0) := (H5.out.cell).cell 6 _ rfl
   have d7 : w6.cell? ⟨w.heap.size,7,none⟩ = some (.slice none 0 0) := (H5.out.cell).cell 7 _ rfl
   have f0 := (H5.out.cell).frozen 0;have f1 := (H5.out.cell).frozen 1;have f2 := (H5.out.cell).frozen 2;have f3 := (H5.out.cell).frozen 3
   have f4 := (H5.out.cell).frozen 4;have f5 := (H5.out.cell).frozen 5;have f6 := (H5.out.cell).frozen 6;have f7 := (H5.out.cell).frozen 7
   have hn3 := HNE.out.1;have hn4 := HNE.out.2.1;have hn5 := HNE.out.2.2.1;have hn6 := HNE.out.2.2.2
   have hn7 : w.heap.size ≠ g := by have := HLT.out;omega
   have hn8 : g ≠ w.heap.size := by have := HLT.out;omega
   go_wp2_with fail
   refine bodyPost_ret (v := nodeV (.node op f mn mx kids) (.slice ka kn kc)) (by unfold nodeV;simp [results,Tryz.results96,go_sem,d0,d1,d2,d3,d4,d5,d6,d7,hn3,hn4,hn5,hn6,hn7,hn8];try rfl) rfl ?_
   exact node_post (r := .no 2 q) HPP.out (StR.ununit HN.out.st) HN.out.only HLT.out HSZ.out (by have := HKN.out;simpa using this) (fun _ _ h => by cases h)
  ·have HN1 := Lib.hid (next_ch g s q oj x _ HS.out (by omega) (by have := HM.out;omega))
   have hR : ∀ c,ch s q = c → closeF s (.ok (.node op f mn mx kids) q) = if c = 41 then .ok (.node op f mn mx kids) (q + 1) else .no 2 q := fun c hc => by rw [closeF,hc]
   obtain ⟨qi,hqi⟩ : ∃ qi : Int,qi = ((q + 1 : Nat) : Int) := ⟨_,rfl⟩
   have hqi2 : qi - 1 = (q : Int) := by omega
   have hqi3 : 0 ≤ qi - 1 := by omega
   have hqi4 : qi < 10000 := by have := HM.out;omega
   have HQI := Lib.hid hqi
   generalize ch s q = c at *
   have hR := hR c rfl
   clear hqi hq hc
   by_cases h41 : c = 41
   ·rw [hR,if_pos h41] at HPP
    subst h41
    clear hR
    go_wp2_with fail
    refine (HN1.out).mono ?_
    rintro e9 w5 ⟨rfl,hA,hO⟩
    have H5 := Lib.hid (H4.out.next (r' := .ok () (q + 1)) HLT.out hO hA);have HC5 := Lib.hid (HC4.out.only hO HNE.out.1)
    have HK5 := Lib.hid (KAt.mono (KAt.only HK4.out hO (fun b hb => ⟨hb.2,by have := hb.1;have := HLT.out;show ¬ (b = g);omega⟩)) (D' := Iv (w.heap.size + 1) w5.heap.size) (fun b hb => ⟨hb.1,Nat.lt_of_lt_of_le hb.2 hO.size⟩))
    clear hA hO
    obtain ⟨pq,cq,yq,HAq⟩ := StR.g H5.out.st
    have z2 : w5.cell? ⟨g,2,none⟩ = some (.int .i64 oj) := HAq.cell 2 _ rfl
    have x2 := HAq.frozen 2
    clear HAq pq cq yq
    have k0 : w5.cell? ⟨w3.heap.size,0,none⟩ = some (.int .i64 op) := HC5.out.cell 0 _ rfl
    have k1 : w5.cell? ⟨w3.heap.size,1,none⟩ = some (.int .u64 ((wd f 0 : Nat) : Int)) := HC5.out.cell 1 _ rfl
    have k2 : w5.cell? ⟨w3.heap.size,2,none⟩ = some (.int .u64 ((wd f 1 : Nat) : Int)) := HC5.out.cell 2 _ rfl
    have k3 : w5.cell? ⟨w3.heap.size,3,none⟩ = some (.int .u64 ((wd f 2 : Nat) : Int)) := HC5.out.cell 3 _ rfl
    have k4 : w5.cell? ⟨w3.heap.size,4,none⟩ = some (.int .u64 ((wd f 3 : Nat) : Int)) := HC5.out.cell 4 _ rfl
    have k5 : w5.cell? ⟨w3.heap.size,5,none⟩ = some (.int .i64 mn) := HC5.out.cell 5 _ rfl
    have k6 : w5.cell? ⟨w3.heap.size,6,none⟩ = some (.int .i64 mx) := HC5.out.cell 6 _ rfl
    have k7 : w5.cell? ⟨w3.heap.size,7,none⟩ = some (.slice ka kn kc) := HC5.out.cell 7 _ rfl
    have HN := Lib.hid (H5.out.next (o' := o) HLT.out ((Only.refl (S := fun k => k = g) _).st g 2 (.int .i64 oi) (.inl rfl)) (by have := StR.open' (o' := oi) H5.out.st;rw [HOI.out] at this ⊢;exact this))
    have HSZ := Lib.hid (show w.heap.size < (w5.setCell ⟨g,2,none⟩ (.int .i64 oi)).heap.size from HN.out.cell.lt)
    have HKN := Lib.hid (KAt.only HK5.out ((Only.refl (S := fun k => k = g) w5).st g 2 (.int .i64 oi) (.inl rfl)) (fun b hb => ⟨hb.2,by have := hb.1;have := HLT.out;show ¬ (b = g);omega⟩))
    have d0 : w5.cell? ⟨w.heap.size,0,none⟩ = some (.int .i64 0) := (H5.out.cell).cell 0 _ rfl
    have d1 : w5.cell? ⟨w.heap.size,1,none⟩ = some (.int .u64 0) := (H5.out.cell).cell 1 _ rfl
    have d2 : w5.cell? ⟨w.heap.size,2,none⟩ = some (.int .u64 0) := (H5.out.cell).cell 2 _ rfl
    have d3 : w5.cell? ⟨w.heap.size,3,none⟩ = some (.int .u64 0) := (H5.out.cell).cell 3 _ rfl
    have d4 : w5.cell? ⟨w.heap.size,4,none⟩ = some (.int .u64 0) := (H5.out.cell).cell 4 _ rfl
    have d5 : w5.cell? ⟨w.heap.size,5,none⟩ = some (.int .i64 0) := (H5.out.cell).cell 5 _ rfl
    have d6 : w5.cell? ⟨w.heap.size,6,none⟩ = some (.int .i64 0) := (H5.out.cell).cell 6 _ rfl
    have d7 : w5.cell? ⟨w.heap.size,7,none⟩ = some (.slice none 0 0) := (H5.out.cell).cell 7 _ rfl
    have f0 := (H5.out.cell).frozen 0;have f1 := (H5.out.cell).frozen 1;have f2 := (H5.out.cell).frozen 2;have f3 := (H5.out.cell).frozen 3
    have f4 := (H5.out.cell).frozen 4;have f5 := (H5.out.cell).frozen 5;have f6 := (H5.out.cell).frozen 6;have f7 := (H5.out.cell).frozen 7
    have hn3 := HNE.out.1;have hn4 := HNE.out.2.1;have hn5 := HNE.out.2.2.1;have hn6 := HNE.out.2.2.2
    have hn7 : w.heap.size ≠ g := by have := HLT.out;omega
    have hn8 : g ≠ w.heap.size := by have := HLT.out;omega
    go_wp2_with fail
    refine bodyPost_ret (v := nodeV (.node op f mn mx kids) (.slice ka kn kc)) (by unfold nodeV;simp [results,Tryz.results96,go_sem,d0,d1,d2,d3,d4,d5,d6,d7,hn3,hn4,hn5,hn6,hn7,hn8];try rfl) rfl ?_
    exact node_post (r := .ok (.node op f mn mx kids) (q + 1)) HPP.out (StR.ununit HN.out.st) HN.out.only HLT.out HSZ.out (by have := HKN.out;simpa using this) (fun _ _ h => by injection h)
   ·rw [hR,if_neg h41] at HPP
    have e41 : (c == 41) = false := by rw [beq_eq_false_iff_ne];exact h41
    clear hR h41
    go_wp2_with fail
    refine (HN1.out).mono ?_
    rintro e9 w4 ⟨rfl,hA,hO⟩
    have hA' := hA
    rw [← HQI.out] at hA'
    have HS4 := Lib.hid hA';have HC4' := Lib.hid (HC4.out.only hO HNE.out.1)
    have HO4 := Lib.hid hO
    have z1 : w4.cell? ⟨g,1,none⟩ = some (.int .i64 qi) := HS4.out.cell 1 _ rfl
    clear hA hO hA'
    go_wp2_with fail
    refine (failO g s _ oj x _ 2 _ HS4.out).mono ?_
    rintro e9 w5 ⟨rfl,hA,hO⟩
    have H5 := Lib.hid (H4.out.next (r' := .no 2 q) HLT.out (HO4.out.tr hO) ⟨_,hA⟩);have HC5 := Lib.hid (HC4'.out.only hO HNE.out.1)
    have HK5 := Lib.hid (KAt.mono (KAt.only HK4.out (HO4.out.tr hO) (fun b hb => ⟨hb.2,by have := hb.1;have := HLT.out;show ¬ (b = g);omega⟩)) (D' := Iv (w.heap.size + 1) w5.heap.size) (fun b hb => ⟨hb.1,Nat.lt_of_lt_of_le hb.2 (HO4.out.tr hO).size⟩))
    clear hA hO z1
    obtain ⟨pq,cq,yq,HAq⟩ := StR.g H5.out.st
    have z2 : w5.cell? ⟨g,2,none⟩ = some (.int .i64 oj) := HAq.cell 2 _ rfl
    have x2 := HAq.frozen 2
    clear HAq pq cq yq
    have k0 : w5.cell? ⟨w3.heap.size,0,none⟩ = some (.int .i64 op) := HC5.out.cell 0 _ rfl
    have k1 : w5.cell? ⟨w3.heap.size,1,none⟩ = some (.int .u64 ((wd f 0 : Nat) : Int)) := HC5.out.cell 1 _ rfl
    have k2 : w5.cell? ⟨w3.heap.size,2,none⟩ = some (.int .u64 ((wd f 1 : Nat) : Int)) := HC5.out.cell 2 _ rfl
    have k3 : w5.cell? ⟨w3.heap.size,3,none⟩ = some (.int .u64 ((wd f 2 : Nat) : Int)) := HC5.out.cell 3 _ rfl
    have k4 : w5.cell? ⟨w3.heap.size,4,none⟩ = some (.int .u64 ((wd f 3 : Nat) : Int)) := HC5.out.cell 4 _ rfl
    have k5 : w5.cell? ⟨w3.heap.size,5,none⟩ = some (.int .i64 mn) := HC5.out.cell 5 _ rfl
    have k6 : w5.cell? ⟨w3.heap.size,6,none⟩ = some (.int .i64 mx) := HC5.out.cell 6 _ rfl
    have k7 : w5.cell? ⟨w3.heap.size,7,none⟩ = some (.slice ka kn kc) := HC5.out.cell 7 _ rfl
    have HN := Lib.hid (H5.out.next (o' := o) HLT.out ((Only.refl (S := fun k => k = g) _).st g 2 (.int .i64 oi) (.inl rfl)) (by have := StR.open' (o' := oi) H5.out.st;rw [HOI.out] at this ⊢;exact this))
    have HSZ := Lib.hid (show w.heap.size < (w5.setCell ⟨g,2,none⟩ (.int .i64 oi)).heap.size from HN.out.cell.lt)
    have HKN := Lib.hid (KAt.only HK5.out ((Only.refl (S := fun k => k = g) w5).st g 2 (.int .i64 oi) (.inl rfl)) (fun b hb => ⟨hb.2,by have := hb.1;have := HLT.out;show ¬ (b = g);omega⟩))
    have d0 : w5.cell? ⟨w.heap.size,0,none⟩ = some (.int .i64 0) := (H5.out.cell).cell 0 _ rfl
    have d1 : w5.cell? ⟨w.heap.size,1,none⟩ = some (.int .u64 0) := (H5.out.cell).cell 1 _ rfl
    have d2 : w5.cell? ⟨w.heap.size,2,none⟩ = some (.int .u64 0) := (H5.out.cell).cell 2 _ rfl
    have d3 : w5.cell? ⟨w.heap.size,3,none⟩ = some (.int .u64 0) := (H5.out.cell).cell 3 _ rfl
    have d4 : w5.cell? ⟨w.heap.size,4,none⟩ = some (.int .u64 0) := (H5.out.cell).cell 4 _ rfl
    have d5 : w5.cell? ⟨w.heap.size,5,none⟩ = some (.int .i64 0) := (H5.out.cell).cell 5 _ rfl
    have d6 : w5.cell? ⟨w.heap.size,6,none⟩ = some (.int .i64 0) := (H5.out.cell).cell 6 _ rfl
    have d7 : w5.cell? ⟨w.heap.size,7,none⟩ = some (.slice none 0 0) := (H5.out.cell).cell 7 _ rfl
    have f0 := (H5.out.cell).frozen 0;have f1 := (H5.out.cell).frozen 1;have f2 := (H5.out.cell).frozen 2;have f3 := (H5.out.cell).frozen 3
    have f4 := (H5.out.cell).frozen 4;have f5 := (H5.out.cell).frozen 5;have f6 := (H5.out.cell).frozen 6;have f7 := (H5.out.cell).frozen 7
    have hn3 := HNE.out.1;have hn4 := HNE.out.2.1;have hn5 := HNE.out.2.2.1;have hn6 := HNE.out.2.2.2
    have hn7 : w.heap.size ≠ g := by have := HLT.out;omega
    have hn8 : g ≠ w.heap.size := by have := HLT.out;omega
    go_wp2_with fail
    refine bodyPost_ret (v := nodeV (.node op f mn mx kids) (.slice ka kn kc)) (by unfold nodeV;simp [results,Tryz.results96,go_sem,d0,d1,d2,d3,d4,d5,d6,d7,hn3,hn4,hn5,hn6,hn7,hn8];try rfl) rfl ?_
    exact node_post (r := .no 2 q) HPP.out (StR.ununit HN.out.st) HN.out.only HLT.out HSZ.out (by have := HKN.out;simpa using this) (fun _ _ h => by cases h)
theorem atom_any (g : Nat) (s : ByteArray) (p o : Nat) (x : Int) (w : World) (h : AtG w g 114 (rdr s p o 0 x)) (hp : p ≤ s.size) (hm : s.size ≤ 1000) (ho2 : o ≤ 20) (hpat : PatC s g x (p + 1)) :
  Calls Tryz.prog 96 #[.pointer (some ⟨g,0,none⟩)] w (NPost s g o x w .atom p) := by
 by_cases h0 : ch s p < 0
 ·exact atom_end g s p o x w h hp hm h0
 by_cases h1 : ch s p = 40
 ·by_cases ho : o = 20
  ·exact atom_deep g s p o x w h hp hm h1 ho
  ·exact atom_sub g s p o x w h hp hm h1 ho ho2 hpat
 by_cases h2 : ch s p = 91
 ·exact atom_class g s p o x w h hp hm h2
 by_cases h3 : ch s p = 46
 ·exact atom_dot g s p o x w h hp hm h3
 by_cases h4 : ch s p = 92
 ·cases hwd : wideF (ch s (p + 1)) with
  | some F => exact atom_wide g s p o x w h hp hm h4 F hwd
  | none => exact atom_esc g s p o x w h hp hm h4 hwd
 by_cases h5 : ch s p = 42 ∨ ch s p = 43
 ·exact atom_star g s p o x w h hp hm (ch s p) h5 rfl
 by_cases h6 : ch s p ∈ brk
 ·exact atom_brk g s p o x w h hp hm _ rfl (by omega) h1 h2 h3 h4 (by omega) (by omega) h6
 ·exact atom_lit g s p o x w h hp hm _ rfl (by omega) h1 h2 h3 h4 (by omega) (by omega) h6
end Go.Proofs.YtgjcibhhffkemaaGreatDoor
namespace Go.Proofs.YtgjcibhhffkemaaGreatDoor
open Go.RowKit Bt
abbrev nodeC (op : Int) (f : Nat → Bool) (mn mx : Int) (kv : Value) : Array Value := #[.int .i64 op,.int .u64 ((wd f 0 : Nat) : Int),.int .u64 ((wd f 1 : Nat) : Int),.int .u64 ((wd f 2 : Nat) : Int),.int .u64 ((wd f 3 : Nat) : Int),.int .i64 mn,.int .i64 mx,kv]
def DB (w wr : World) (b3 : Nat) : Nat → Prop := fun b => Iv (w.heap.size + 1) wr.heap.size b ∧ b ≠ b3
structure Held (g : Nat) (w : World) (b3 : Nat) (t : Tree) (kv : Value) (wr : World) : Prop where
 node : AtG wr b3 41 (nodeL t kv).toArray
 kids : KAt (DB w wr b3) wr t kv
 cell : AtG wr w.heap.size 41 nodeZ
 only : Only (fun k => k = g) w wr
namespace Held
variable {g : Nat} {w wr w2 : World} {b3 : Nat} {t : Tree} {kv : Value}
theorem next (h : Held g w b3 t kv wr) (hg : g < w.heap.size) (hb : w.heap.size < b3) (hO : Only (fun k => k = g) wr w2) : Held g w b3 t kv w2 :=
 ⟨h.node.only hO (by show ¬ (b3 = g);omega),KAt.keep (fun b hb => hO.block b hb.1.2 (by have := hb.1.1;show ¬ (b = g);omega)) (fun b hb => ⟨⟨hb.1.1,Nat.lt_of_lt_of_le hb.1.2 hO.size⟩,hb.2⟩) _ _ h.kids,
  h.cell.only hO (by show ¬ (w.heap.size = g);omega),h.only.tr hO⟩
theorem below (h : Held g w b3 t kv wr) (hg : g < w.heap.size) (hb : w.heap.size < b3) (hO : Below wr.heap.size wr w2) : Held g w b3 t kv w2 := h.next hg hb (Only.of_below hO)
theorem step {op : Int} {f : Nat → Bool} {mn mx : Int} {kids : List Tree} {ka : Option Addr} {kn kc : Nat} (h : Held g w b3 (.node op f mn mx kids) (.slice ka kn kc) wr) (hg : g < w.heap.size) (hb : w.heap.size < b3) (low high : Int) :
  Held g w b3 (repT low high (.node op f mn mx kids)) (.slice (some ⟨wr.heap.size,0,none⟩) 1 1) ((putN wr b3 4 emp low high (.slice (some ⟨wr.heap.size,0,none⟩) 1 1)).alloc (.cells (nodeC op f mn mx (.slice ka kn kc)) 41)) := by
 have hl := h.node.lt
 have hP : AtG (putN wr b3 4 emp low high (.slice (some ⟨wr.heap.size,0,none⟩) 1 1)) b3 41 (nodeC 4 emp low high (.slice (some ⟨wr.heap.size,0,none⟩) 1 1)) := putN_at h.node 4 emp low high _
 have hN2 : AtG ((putN wr b3 4 emp low high (.slice (some ⟨wr.heap.size,0,none⟩) 1 1)).alloc (.cells (nodeC op f mn mx (.slice ka kn kc)) 41)) wr.heap.size 41 (nodeC op f mn mx (.slice ka kn kc)) := by
  have := AtG.new (putN wr b3 4 emp low high (.slice (some ⟨wr.heap.size,0,none⟩) 1 1)) 41 (nodeC op f mn mx (.slice ka kn kc))
  rw [putN_size] at this;exact this
 refine ⟨hP.alloc _,?_,(putN_far h.cell (by omega) _ _ _ _ _).alloc _,(h.only.pN _ (.inr (by omega)) _ _ _ _ _).al _⟩
 have hsz : ((putN wr b3 4 emp low high (.slice (some ⟨wr.heap.size,0,none⟩) 1 1)).alloc (.cells (nodeC op f mn mx (.slice ka kn kc)) 41)).heap.size = wr.heap.size + 1 := by simp [putN_size]
 have hws : w.heap.size < wr.heap.size := by have := h.cell.lt;exact this
 unfold repT
 rw [KAt]
 refine .inr ⟨by simp,by simp,wr.heap.size,0,1,rfl,by simp,⟨⟨hws,by rw [hsz];omega⟩,by omega⟩,?_⟩
 rw [KRow]
 refine ⟨⟨.slice ka kn kc,fun i hi => ?_,?_⟩,by rw [KRow];trivial⟩
 ·rw [Nat.zero_add]
  have hi2 : i < (nodeL (.node op f mn mx kids) (.slice ka kn kc)).length := by rw [nodeL_len];exact hi
  rw [List.getElem?_eq_getElem hi2]
  exact hN2.cell i _ (by
   show (nodeL (.node op f mn mx kids) (.slice ka kn kc)).toArray[i]? = _
   rw [List.getElem?_toArray,List.getElem?_eq_getElem hi2])
 ·refine KAt.keep (fun b hb' => ?_) (fun b hb' => ⟨⟨hb'.1.1,by rw [hsz];have := hb'.1.2;omega⟩,hb'.2⟩) _ _ h.kids
  have h1 := putN_block wr b3 4 emp low high (.slice (some ⟨wr.heap.size,0,none⟩) 1 1) b hb'.2 hb'.1.2
  rw [← h1]
  exact ((Below.refl (putN wr b3 4 emp low high (.slice (some ⟨wr.heap.size,0,none⟩) 1 1)).heap.size _).alloc (Nat.le_refl _) _).block b (by rw [putN_size];exact hb'.1.2)
end Held
end Go.Proofs.YtgjcibhhffkemaaGreatDoor
namespace Go.Proofs.YtgjcibhhffkemaaGreatDoor
open Go.RowKit Bt
structure Kids (g : Nat) (w : World) (v : Value) (ps : List (Tree × Value)) (wr : World) : Prop where
 row : wr.ownsRow (w.heap.size + 1) 41 8 v ps.length (flatN ps)
 kids : AllK (IvB (w.heap.size + 1) wr.heap.size v) wr ps
 cell : AtG wr w.heap.size 41 nodeZ
 only : Only (fun k => k = g) w wr
namespace Kids
variable {g : Nat} {w wr w2 : World} {v : Value} {ps : List (Tree × Value)}
theorem keepAll {D D' : Nat → Prop} {w w' : World} {ps : List (Tree × Value)} (hk : ∀ b,D b → w'.heap[b]? = w.heap[b]?) (hD : ∀ b,D b → D' b) (h : AllK D w ps) : AllK D' w' ps := fun p hp => KAt.keep hk hD _ _ (h p hp)
theorem next (h : Kids g w v ps wr) (hg : g < w.heap.size) (hO : Only (fun k => k = g) wr w2) : Kids g w v ps w2 :=
 ⟨own_only h.row hO (fun k hk => by have := own_base h.row k hk;show ¬ (k = g);omega),keepAll (fun b hb => hO.block b hb.1.2 (by have := hb.1.1;show ¬ (b = g);omega)) (fun b hb => ⟨⟨hb.1.1,Nat.lt_of_lt_of_le hb.1.2 hO.size⟩,hb.2⟩) h.kids,
  h.cell.only hO (by show ¬ (w.heap.size = g);omega),h.only.tr hO⟩
theorem below (h : Kids g w v ps wr) (hg : g < w.heap.size) (hO : Below wr.heap.size wr w2) : Kids g w v ps w2 := h.next hg (Only.of_below hO)
theorem start {op : Int} {f : Nat → Bool} {mn mx : Int} {kids : List Tree} {kv : Value} (hc : AtG wr w.heap.size 41 nodeZ) (ho : Only (fun k => k = g) w wr) (hK : KAt (Iv (w.heap.size + 1) wr.heap.size) wr (.node op f mn mx kids) kv) :
  Kids g w (.slice (some ⟨wr.heap.size,0,none⟩) 1 1) [(.node op f mn mx kids,kv)] (wr.alloc (.cells (nodeC op f mn mx kv) 41)) := by
 refine ⟨own_node (AtG.new _ _ _) (by have := hc.lt;omega),?_,hc.alloc _,ho.al _⟩
 intro p hp
 simp only [List.mem_singleton] at hp
 subst hp
 exact KAt.keep (fun b hb => ((Below.refl wr.heap.size wr).alloc (Nat.le_refl _) _).block b hb.2) (fun b hb => ⟨⟨hb.1,by have := hb.2;simp;omega⟩,fun e => by have := hb.2;have e2 : wr.heap.size = b := Option.some.inj e;omega⟩) _ _ hK
theorem more {w4 : World} {v' : Value} {op : Int} {f : Nat → Bool} {mn mx : Int} {kids : List Tree} {kv : Value} (h : Kids g w v ps wr) (hg : g < w.heap.size) (hO : Only (fun k => k = g) wr w2) (hK : KAt (Iv wr.heap.size w2.heap.size) w2 (.node op f mn mx kids) kv)
  (hown : w4.ownsRow (w.heap.size + 1) 41 8 v' (ps.length + 1) (flatN ps ++ nodeL (.node op f mn mx kids) kv)) (hgr : (w2.alloc (.cells (nodeC op f mn mx kv) 41)).grownBy w4 v.ownBlock) (hbk : v'.ownBlock = v.ownBlock ∨ v'.ownBlock = some (w2.alloc (.cells (nodeC op f mn mx kv) 41)).heap.size) :
  Kids g w v' (ps ++ [(.node op f mn mx kids,kv)]) w4 := by
 have h3 := (h.next hg hO).below hg ((Below.refl w2.heap.size w2).alloc (Nat.le_refl _) (.cells (nodeC op f mn mx kv) 41))
 have hws : w.heap.size + 1 ≤ wr.heap.size := by have := h.cell.lt;omega
 have hblk : ∀ b,b < (w2.alloc (.cells (nodeC op f mn mx kv) 41)).heap.size → v.ownBlock ≠ some b → w4.heap[b]? = (w2.alloc (.cells (nodeC op f mn mx kv) 41)).heap[b]? := fun b hb hv => hgr.block b hb (fun e => hv e.symm)
 have hne : ∀ b,b < (w2.alloc (.cells (nodeC op f mn mx kv) 41)).heap.size → v.ownBlock ≠ some b → v'.ownBlock ≠ some b := fun b hb hv e => by
  rcases hbk with h1 | h1
  ·rw [h1] at e;exact hv e
  ·rw [h1] at e;injection e with e;omega
 have hlt : ∀ k,v.ownBlock = some k → k < wr.heap.size := fun k hk => own_lt h.row k hk
 refine ⟨by rw [List.length_append,flatN_snoc];exact hown,?_,h3.cell.grown hgr (fun e => by have := own_base h.row _ e;omega),h3.only.trans (Only.of_grown (S := fun k => v.ownBlock = some k) hgr (fun k hk => hk)) (fun k hk => .inr (by have := own_base h.row k hk;omega))⟩
 intro p hp
 rcases List.mem_append.1 hp with hp | hp
 ·exact KAt.keep (fun b hb => hblk b hb.1.2 hb.2) (fun b hb => ⟨⟨hb.1.1,Nat.lt_of_lt_of_le hb.1.2 hgr.size⟩,hne b hb.1.2 hb.2⟩) _ _ (h3.kids p hp)
 ·simp only [List.mem_singleton] at hp
  subst hp
  have hsz : (w2.alloc (.cells (nodeC op f mn mx kv) 41)).heap.size = w2.heap.size + 1 := by simp
  have hv : ∀ b,Iv wr.heap.size w2.heap.size b → v.ownBlock ≠ some b := fun b hb e => by have := hlt b e;have := hb.1;omega
  refine KAt.keep (fun b hb => ?_) (fun b hb => ⟨⟨by have := hb.1;omega,by have := hb.2;have := hgr.size;omega⟩,hne b (by have := hb.2;omega) (hv b hb)⟩) _ _ hK
  rw [hblk b (by have := hb.2;omega) (hv b hb)]
  exact ((Below.refl w2.heap.size w2).alloc (Nat.le_refl _) _).block b hb.2
end Kids
end Go.Proofs.YtgjcibhhffkemaaGreatDoor
namespace Go.Proofs.YtgjcibhhffkemaaGreatDoor
open Go.RowKit Bt
theorem putN_below {B : Nat} {w w1 : World} (h : Below B w w1) {g : Nat} (hg : B ≤ g) (op : Int) (f : Nat → Bool) (mn mx : Int) (kv : Value) : Below B w (putN w1 g op f mn mx kv) :=
 (((((((h.setCell (p := ⟨g,0,none⟩) hg _).setCell (p := ⟨g,1,none⟩) hg _).setCell (p := ⟨g,2,none⟩) hg _).setCell (p := ⟨g,3,none⟩) hg _).setCell (p := ⟨g,4,none⟩) hg _).setCell (p := ⟨g,5,none⟩) hg _).setCell (p := ⟨g,6,none⟩) hg _).setCell (p := ⟨g,7,none⟩) hg _
def putZ (w : World) (g : Nat) : World :=
 (((((((w.setCell ⟨g,0,none⟩ (.int .i64 0)).setCell ⟨g,1,none⟩ (.int .u64 0)).setCell ⟨g,2,none⟩ (.int .u64 0)).setCell ⟨g,3,none⟩ (.int .u64 0)).setCell ⟨g,4,none⟩ (.int .u64 0)).setCell ⟨g,5,none⟩ (.int .i64 0)).setCell ⟨g,6,none⟩ (.int .i64 0)).setCell ⟨g,7,none⟩ (.slice none 0 0)
theorem putZ_eq (w : World) (g : Nat) : putZ w g = putN w g 0 emp 0 0 (.slice none 0 0) := by unfold putZ putN;rw [wd_emp,wd_emp,wd_emp,wd_emp]
theorem putZ_at {w : World} {g T : Nat} (h : AtG w g T nodeZ) : AtG (putZ w g) g T nodeZ := by
 rw [putZ_eq]
 have := putN_at h 0 emp 0 0 (.slice none 0 0)
 rw [wd_emp,wd_emp,wd_emp,wd_emp] at this
 exact this
def zeroN : Value := .agg #[.int .i64 0,.int .u64 0,.int .u64 0,.int .u64 0,.int .u64 0,.int .i64 0,.int .i64 0,.slice none 0 0]
end Go.Proofs.YtgjcibhhffkemaaGreatDoor
namespace Go.Proofs.YtgjcibhhffkemaaGreatDoor
inductive Pat where
 | one (s : Nat → Bool)
 | cat (l : List Pat)
 | alt (l : List Pat)
 | rep (mn mx : Nat) (p : Pat)
def It (R : Nat → Nat → Prop) : Nat → Nat → Nat → Prop
 | 0,j,i => i = j
 | t + 1,j,i => ∃ k,It R t j k ∧ R k i
mutual
def Mt (b : Nat → Nat) (n : Nat) : Pat → Nat → Nat → Prop
 | .one s,j,i => i = j + 1 ∧ j < n ∧ s (b j) = true
 | .cat l,j,i => MtC b n l j i
 | .alt l,j,i => MtA b n l j i
 | .rep mn mx p,j,i => ∃ t,mn ≤ t ∧ t ≤ mx ∧ It (Mt b n p) t j i
def MtC (b : Nat → Nat) (n : Nat) : List Pat → Nat → Nat → Prop
 | [],j,i => i = j
 | p :: l,j,i => ∃ k,Mt b n p j k ∧ MtC b n l k i
def MtA (b : Nat → Nat) (n : Nat) : List Pat → Nat → Nat → Prop
 | [],_,_ => False
 | p :: l,j,i => Mt b n p j i ∨ MtA b n l j i
end
def img (R : Nat → Nat → Prop) (S : Nat → Prop) : Nat → Prop := fun i => ∃ j,S j ∧ R j i
def imgN (R : Nat → Nat → Prop) (S : Nat → Prop) : Nat → (Nat → Prop)
 | 0 => S
 | t + 1 => img R (imgN R S t)
theorem imgN_iff (R : Nat → Nat → Prop) (S : Nat → Prop) (t : Nat) : ∀ i,imgN R S t i ↔ ∃ j,S j ∧ It R t j i := by
 induction t with
 | zero => intro i;exact ⟨fun h => ⟨i,h,rfl⟩,fun ⟨j,h,e⟩ => by cases e;exact h⟩
 | succ t ih =>
  intro i
  constructor
  ·rintro ⟨k,h1,h2⟩
   obtain ⟨j,h3,h4⟩ := (ih k).1 h1
   exact ⟨j,h3,k,h4,h2⟩
  ·rintro ⟨j,h3,k,h4,h2⟩
   exact ⟨k,(ih k).2 ⟨j,h3,h4⟩,h2⟩
theorem img_congr {R : Nat → Nat → Prop} {S T : Nat → Prop} (h : ∀ i,S i ↔ T i) (i : Nat) : img R S i ↔ img R T i :=
 ⟨fun ⟨j,h1,h2⟩ => ⟨j,(h j).1 h1,h2⟩,fun ⟨j,h1,h2⟩ => ⟨j,(h j).2 h1,h2⟩⟩
theorem imgN_stay {R : Nat → Nat → Prop} {S : Nat → Prop} {t : Nat} (h : ∀ i,img R (imgN R S t) i ↔ imgN R S t i) (d : Nat) : ∀ i,imgN R S (t + d) i ↔ imgN R S t i := by
 induction d with
 | zero => exact fun i => Iff.rfl
 | succ d ih => exact fun i => (img_congr ih i).trans (h i)
theorem rep_stop {R : Nat → Nat → Prop} {S : Nat → Prop} {t mn mx : Nat} (h : ∀ i,img R (imgN R S t) i ↔ imgN R S t i) (ht : t ≤ mx) (hm : mn ≤ mx) (i : Nat) :
  (∃ u,mn ≤ u ∧ u ≤ mx ∧ imgN R S u i) ↔ ((∃ u,mn ≤ u ∧ u < t ∧ imgN R S u i) ∨ imgN R S t i) := by
 constructor
 ·rintro ⟨u,h1,h2,h3⟩
  by_cases hu : u < t
  ·exact .inl ⟨u,h1,hu,h3⟩
  ·obtain ⟨d,rfl⟩ := Nat.exists_eq_add_of_le (show t ≤ u by omega)
   exact .inr ((imgN_stay h d i).1 h3)
 ·rintro (⟨u,h1,h2,h3⟩ | h3)
  ·exact ⟨u,h1,by omega,h3⟩
  ·by_cases hu : mn ≤ t
   ·exact ⟨t,hu,ht,h3⟩
   ·obtain ⟨d,hd⟩ := Nat.exists_eq_add_of_le (show t ≤ mn by omega)
    subst hd
    exact ⟨t + d,Nat.le_refl _,hm,(imgN_stay h d i).2 h3⟩
theorem mt_rep (b : Nat → Nat) (n mn mx : Nat) (p : Pat) (S : Nat → Prop) (i : Nat) : img (Mt b n (.rep mn mx p)) S i ↔ ∃ u,mn ≤ u ∧ u ≤ mx ∧ imgN (Mt b n p) S u i := by
 constructor
 ·rintro ⟨j,h1,h2⟩
  rw [Mt] at h2
  obtain ⟨t,h3,h4,h5⟩ := h2
  exact ⟨t,h3,h4,(imgN_iff _ _ _ _).2 ⟨j,h1,h5⟩⟩
 ·rintro ⟨u,h1,h2,h3⟩
  obtain ⟨j,h4,h5⟩ := (imgN_iff _ _ _ _).1 h3
  exact ⟨j,h4,by rw [Mt];exact ⟨u,h1,h2,h5⟩⟩
theorem mt_cat_nil (b : Nat → Nat) (n : Nat) (S : Nat → Prop) (i : Nat) : img (MtC b n []) S i ↔ S i := by
 constructor
 ·rintro ⟨j,h1,h2⟩
  rw [MtC] at h2
  subst h2;exact h1
 ·exact fun h => ⟨i,h,by rw [MtC]⟩
theorem mt_cat_cons (b : Nat → Nat) (n : Nat) (p : Pat) (l : List Pat) (S : Nat → Prop) (i : Nat) : img (MtC b n (p :: l)) S i ↔ img (MtC b n l) (img (Mt b n p) S) i := by
 constructor
 ·rintro ⟨j,h1,h2⟩
  rw [MtC] at h2
  obtain ⟨k,h3,h4⟩ := h2
  exact ⟨k,⟨j,h1,h3⟩,h4⟩
 ·rintro ⟨k,⟨j,h1,h3⟩,h4⟩
  exact ⟨j,h1,by rw [MtC];exact ⟨k,h3,h4⟩⟩
end Go.Proofs.YtgjcibhhffkemaaGreatDoor
namespace Go.Proofs.YtgjcibhhffkemaaGreatDoor
theorem P.det {s : ByteArray} {q : Q} {o p : Nat} {r : Re Tree} (h : P s q o p r) : ∀ r',P s q o p r' → r = r' := by
 induction h with
 | plain h => intro r' h';cases h' with | plain => rfl | deep h1 => exact absurd h1 h | sub h1 => exact absurd h1 h
 | deep h h1 => intro r' h';cases h' with | plain h2 => exact absurd h h2 | deep => rfl | sub h2 h3 => exact absurd h1 h3
 | sub h h1 h2 ih => intro r' h';cases h' with | plain h3 => exact absurd h h3 | deep h3 h4 => exact absurd h4 h1 | sub h3 h4 h5 => rw [ih _ h5]
 | pieceNo h ih => intro r' h';cases h' with | pieceNo h1 => exact ih _ h1 | pieceOk h1 h2 => cases ih _ h1
 | pieceOk h h1 ih ih1 => intro r' h';cases h' with | pieceNo h2 => cases ih _ h2 | pieceOk h2 h3 => cases ih _ h2;exact ih1 _ h3
 | opt h h1 ih => intro r' h';cases h' with | opt h2 h3 => exact ih _ h3 | times h2 => omega | timesNo h2 => omega | pieceEnd h2 => exact absurd h h2
 | times h h1 h2 ih => intro r' h';cases h' with | opt h3 => omega | times h3 h4 h5 => rw [h1] at h4;cases h4;exact ih _ h5 | timesNo h3 h4 => rw [h1] at h4;cases h4 | pieceEnd h3 h4 => exact absurd h h4
 | timesNo h h1 => intro r' h';cases h' with | opt h3 => omega | times h3 h4 h5 => rw [h1] at h4;cases h4 | timesNo h3 h4 => rw [h1] at h4;cases h4;rfl | pieceEnd h3 h4 => exact absurd h h4
 | pieceEnd h h1 => intro r' h';cases h' with | opt h3 => exact absurd h3 h | times h3 => exact absurd h3 h1 | timesNo h3 => exact absurd h3 h1 | pieceEnd => rfl
 | partNo h ih => intro r' h';cases h' with | partNo h1 => exact ih _ h1 | partOk h1 h2 => cases ih _ h1
 | partOk h h1 ih ih1 => intro r' h';cases h' with | partNo h2 => cases ih _ h2 | partOk h2 h3 => cases ih _ h2;exact ih1 _ h3
 | partMore h h1 h2 ih ih1 => intro r' h';cases h' with | partMore h3 h4 h5 => cases ih _ h4;exact ih1 _ h5 | partBad h3 h4 => cases ih _ h4 | partEnd h3 => exact absurd h h3
 | partBad h h1 ih => intro r' h';cases h' with | partMore h3 h4 h5 => cases ih _ h4 | partBad h3 h4 => exact ih _ h4 | partEnd h3 => exact absurd h h3
 | partEnd h => intro r' h';cases h' with | partMore h3 => exact absurd h3 h | partBad h3 => exact absurd h3 h | partEnd => rfl
 | patNo h ih => intro r' h';cases h' with | patNo h1 => exact ih _ h1 | patOk h1 h2 => cases ih _ h1
 | patOk h h1 ih ih1 => intro r' h';cases h' with | patNo h2 => cases ih _ h2 | patOk h2 h3 => cases ih _ h2;exact ih1 _ h3
 | patMore h h1 h2 ih ih1 => intro r' h';cases h' with | patMore h3 h4 h5 => cases ih _ h4;exact ih1 _ h5 | patBad h3 h4 => cases ih _ h4 | patEnd h3 => exact absurd h h3
 | patBad h h1 ih => intro r' h';cases h' with | patMore h3 h4 h5 => cases ih _ h4 | patBad h3 h4 => exact ih _ h4 | patEnd h3 => exact absurd h h3
 | patEnd h => intro r' h';cases h' with | patMore h3 => exact absurd h3 h | patBad h3 => exact absurd h3 h | patEnd => rfl
mutual
def Pat.tree : Pat → Tree
 | .one f => .node 1 f 0 0 []
 | .cat l => catT (Pat.trees l)
 | .alt l => altT (Pat.trees l)
 | .rep mn mx p => repT (mn : Int) (mx : Int) (Pat.tree p)
def Pat.trees : List Pat → List Tree
 | [] => []
 | p :: l => Pat.tree p :: Pat.trees l
end
theorem Pat.trees_map (l : List Pat) : Pat.trees l = l.map Pat.tree := by
 induction l with
 | nil => rfl
 | cons p l ih => rw [Pat.trees,ih];rfl
theorem Pat.ind {M : Pat → Prop} (h1 : ∀ f,M (.one f)) (h2 : ∀ l,(∀ p ∈ l,M p) → M (.cat l)) (h3 : ∀ l,(∀ p ∈ l,M p) → M (.alt l)) (h4 : ∀ mn mx p,M p → M (.rep mn mx p)) : ∀ p,M p
 | .one f => h1 f
 | .cat l => h2 l fun p hp => Pat.ind h1 h2 h3 h4 p
 | .alt l => h3 l fun p hp => Pat.ind h1 h2 h3 h4 p
 | .rep mn mx p => h4 mn mx p (Pat.ind h1 h2 h3 h4 p)
inductive Wf : Pat → Prop where
 | one (f) : Wf (.one f)
 | cat (l) (h : ∀ p ∈ l,Wf p) (hl : 2 ≤ l.length) (hm : l.length ≤ 1000) : Wf (.cat l)
 | alt (l) (h : ∀ p ∈ l,Wf p) (hl : 2 ≤ l.length) (hm : l.length ≤ 1000) : Wf (.alt l)
 | rep (mn mx p) (h : Wf p) (h1 : mn ≤ mx) (h2 : 1 ≤ mx) (h3 : mx ≤ 32) : Wf (.rep mn mx p)
def Good (t : Tree) : Prop := ∃ p,Wf p ∧ t = p.tree
theorem good_one (f : Nat → Bool) : Good (one f) := ⟨.one f,.one f,rfl⟩
theorem good_rep {t : Tree} (h : Good t) {mn mx : Int} (h0 : 0 ≤ mn) (h1 : mn ≤ mx) (h2 : 1 ≤ mx) (h3 : mx ≤ 32) : Good (repT mn mx t) := by
 obtain ⟨p,hp,rfl⟩ := h
 exact ⟨.rep mn.toNat mx.toNat p,.rep _ _ _ hp (by omega) (by omega) (by omega),by rw [Pat.tree,Int.toNat_of_nonneg h0,Int.toNat_of_nonneg (by omega)]⟩
theorem goods {l : List Tree} (h : ∀ t ∈ l,Good t) : ∃ ps : List Pat,(∀ p ∈ ps,Wf p) ∧ l = Pat.trees ps := by
 induction l with
 | nil => exact ⟨[],by simp,rfl⟩
 | cons t l ih =>
  obtain ⟨p,hp,ht⟩ := h t (by simp)
  obtain ⟨ps,hps,hl⟩ := ih fun u hu => h u (by simp [hu])
  exact ⟨p :: ps,by intro q hq;rcases List.mem_cons.1 hq with rfl | hq;exact hp;exact hps q hq,by rw [Pat.trees,ht,hl]⟩
theorem trees_len (ps : List Pat) : (Pat.trees ps).length = ps.length := by rw [Pat.trees_map];simp
theorem good_many {l : List Tree} (h : ∀ t ∈ l,Good t) (hn : l ≠ []) (hm : l.length ≤ 1000) : Good (many 2 l) ∧ Good (many 3 l) := by
 match l,hn with
 | [t],_ => exact ⟨h t (by simp),h t (by simp)⟩
 | a :: b :: r,_ =>
  obtain ⟨ps,hps,hl⟩ := goods h
  have hlen : 2 ≤ ps.length := by rw [← trees_len,← hl];simp
  have hlen2 : ps.length ≤ 1000 := by rw [← trees_len,← hl];exact hm
  exact ⟨⟨.cat ps,.cat ps hps hlen hlen2,by rw [Pat.tree,← hl];rfl⟩,⟨.alt ps,.alt ps hps hlen hlen2,by rw [Pat.tree,← hl];rfl⟩⟩
def Q.good : Q → Nat → Prop
 | .pieceL t,_ => Good t
 | .partL l,p => (∀ t ∈ l,Good t) ∧ l ≠ [] ∧ l.length ≤ p
 | .patL l,p => (∀ t ∈ l,Good t) ∧ l ≠ [] ∧ l.length ≤ p
 | _,_ => True
theorem re_good {r : Re (Nat → Bool)} {t : Tree} {q : Nat} (h : r.map one = .ok t q) : Good t := by
 cases r with
 | ok f q' => injection h with h;subst h;exact good_one _
 | no c x => cases h
theorem atomF_good {s : ByteArray} {p : Nat} {t : Tree} {q : Nat} (h : atomF s p = .ok t q) : Good t := by
 unfold atomF at h
 split at h
 ·cases h
 split at h
 ·exact re_good h
 split at h
 ·injection h with h;subst h;exact good_one _
 split at h
 ·split at h
  ·injection h with h;subst h;exact good_one _
  ·cases he : escF s (p + 1) with
   | ok a b => rw [he] at h;injection h with h;subst h;exact good_one _
   | no c x => rw [he] at h;cases h
 split at h
 ·cases h
 split at h
 ·cases h
 ·injection h with h;subst h;exact good_one _
theorem P.good {s : ByteArray} (hm : s.size ≤ 1000) {q : Q} {o p : Nat} {r : Re Tree} (h : P s q o p r) : p ≤ s.size → q.good p → ∀ t q',r = .ok t q' → Good t := by
 induction h with
 | plain h => intro _ _ t q' e;exact atomF_good e
 | deep => intro _ _ t q' e;cases e
 | @sub o p r h h1 h2 ih =>
  intro hp _ t q' e
  cases r with
  | no c x => cases e
  | ok t2 q2 =>
   have := ih (ch_ge (by omega)) trivial t2 q2 rfl
   rw [closeF] at e
   split at e
   ·injection e with e;subst e;exact this
   ·cases e
 | pieceNo h ih => intro _ _ t q' e;cases e
 | @pieceOk o p t q r h h1 ih ih1 => intro hp _ t' q' e;exact ih1 (P.in h hp).2 (ih hp trivial t q rfl) t' q' e
 | @opt o p t r h h1 ih => intro hp hg t' q' e;exact ih (ch_ge (by omega)) (good_rep hg (by omega) (by omega) (by omega) (by omega)) t' q' e
 | @times o p t m n q r h h1 h2 ih =>
  intro hp hg t' q' e
  obtain ⟨h3,h4⟩ := timesF_in s (p + 1) (ch_ge (by omega))
  obtain ⟨a1,a2,a3,a4⟩ := h4 m n q h1
  rw [h1] at h3
  exact ih h3.2 (good_rep hg a1 a4 a2 a3) t' q' e
 | timesNo => intro _ _ t q' e;cases e
 | pieceEnd => intro _ hg t q' e;injection e with e;subst e;exact hg
 | partNo => intro _ _ t q' e;cases e
 | @partOk o p t q r h h1 ih ih1 =>
  intro hp _ t' q' e
  have hin := P.in h hp
  have hin1 := hin.1
  simp [Q.far] at hin1
  exact ih1 hin.2 ⟨by intro u hu;rw [show u = t from by simpa using hu];exact ih hp trivial t q rfl,by simp,by simp;omega⟩ t' q' e
 | @partMore o p l t q r h h1 h2 ih ih1 =>
  intro hp hg t' q' e
  have hin := P.in h1 hp
  have hin1 := hin.1
  simp [Q.far] at hin1
  refine ih1 hin.2 ⟨fun u hu => ?_,by simp,by have := hg.2.2;simp;omega⟩ t' q' e
  rcases List.mem_append.1 hu with hu | hu
  ·exact hg.1 u hu
  ·rw [show u = t from by simpa using hu];exact ih hp trivial t q rfl
 | partBad => intro _ _ t q' e;cases e
 | partEnd => intro hp hg t q' e;injection e with e;subst e;exact (good_many hg.1 hg.2.1 (by have := hg.2.2;omega)).1
 | patNo => intro _ _ t q' e;cases e
 | @patOk o p t q r h h1 ih ih1 =>
  intro hp _ t' q' e
  have hin := P.in h hp
  have hin1 := hin.1
  simp [Q.far] at hin1
  exact ih1 hin.2 ⟨by intro u hu;rw [show u = t from by simpa using hu];exact ih hp trivial t q rfl,by simp,by simp;omega⟩ t' q' e
 | @patMore o p l t q r h h1 h2 ih ih1 =>
  intro hp hg t' q' e
  have hin := P.in h1 (ch_ge (s := s) (p := p) (by omega))
  have hin1 := hin.1
  simp [Q.far] at hin1
  refine ih1 hin.2 ⟨fun u hu => ?_,by simp,by have := hg.2.2;simp;omega⟩ t' q' e
  rcases List.mem_append.1 hu with hu | hu
  ·exact hg.1 u hu
  ·rw [show u = t from by simpa using hu];exact ih (ch_ge (s := s) (p := p) (by omega)) trivial t q rfl
 | patBad => intro _ _ t q' e;cases e
 | patEnd => intro hp hg t q' e;injection e with e;subst e;exact (good_many hg.1 hg.2.1 (by have := hg.2.2;omega)).2
end Go.Proofs.YtgjcibhhffkemaaGreatDoor
namespace Go.Proofs.YtgjcibhhffkemaaGreatDoor
theorem mt_alt_cons (b : Nat → Nat) (n : Nat) (p : Pat) (l : List Pat) (S : Nat → Prop) (i : Nat) : img (MtA b n (p :: l)) S i ↔ img (Mt b n p) S i ∨ img (MtA b n l) S i := by
 constructor
 ·rintro ⟨j,h1,h2⟩
  rw [MtA] at h2
  exact h2.imp (fun h => ⟨j,h1,h⟩) (fun h => ⟨j,h1,h⟩)
 ·rintro (⟨j,h1,h2⟩ | ⟨j,h1,h2⟩)
  ·exact ⟨j,h1,by rw [MtA];exact .inl h2⟩
  ·exact ⟨j,h1,by rw [MtA];exact .inr h2⟩
mutual
def leastP : Pat → Nat
 | .one _ => 1
 | .cat l => min (leastC l) 1000
 | .alt l => min (leastA l) 1000
 | .rep mn _ p => min (mn * leastP p) 1000
def leastC : List Pat → Nat
 | [] => 0
 | p :: l => leastP p + leastC l
def leastA : List Pat → Nat
 | [] => 1000
 | p :: l => min (leastP p) (leastA l)
end
mutual
def mostP : Pat → Nat
 | .one _ => 1
 | .cat l => min (mostC l) 1000
 | .alt l => min (mostA l) 1000
 | .rep _ mx p => min (mx * mostP p) 1000
def mostC : List Pat → Nat
 | [] => 0
 | p :: l => mostP p + mostC l
def mostA : List Pat → Nat
 | [] => 0
 | p :: l => max (mostP p) (mostA l)
end
mutual
/-- all bytes of all sets -/
def anyP : Pat → Nat → Bool
 | .one s => s
 | .cat l => anyL l
 | .alt l => anyL l
 | .rep _ _ p => anyP p
def anyL : List Pat → Nat → Bool
 | [] => fun _ => false
 | p :: l => fun c => anyP p c || anyL l c
end
theorem it_len {R : Nat → Nat → Prop} {lo hi : Nat} (h : ∀ j i,R j i → j ≤ i ∧ lo ≤ i - j ∧ min (i - j) 1000 ≤ hi) (t : Nat) : ∀ j i,It R t j i → j ≤ i ∧ t * lo ≤ i - j ∧ min (i - j) 1000 ≤ t * hi := by
 induction t with
 | zero => intro j i e;cases e;simp
 | succ t ih =>
  rintro j i ⟨k,h1,h2⟩
  have a := ih j k h1
  have c := h k i h2
  rw [Nat.succ_mul,Nat.succ_mul]
  omega
theorem mt_len (b : Nat → Nat) (n : Nat) (p : Pat) : ∀ j i,Mt b n p j i → j ≤ i ∧ leastP p ≤ i - j ∧ min (i - j) 1000 ≤ mostP p := by
 refine Pat.rec (motive_1 := fun p => ∀ j i,Mt b n p j i → j ≤ i ∧ leastP p ≤ i - j ∧ min (i - j) 1000 ≤ mostP p)
  (motive_2 := fun l => (∀ j i,MtC b n l j i → j ≤ i ∧ leastC l ≤ i - j ∧ min (i - j) 1000 ≤ mostC l) ∧ (∀ j i,MtA b n l j i → j ≤ i ∧ leastA l ≤ i - j ∧ min (i - j) 1000 ≤ mostA l)) ?_ ?_ ?_ ?_ ?_ ?_ p
 ·intro s j i h
  rw [Mt] at h
  obtain ⟨rfl,_,_⟩ := h
  rw [leastP,mostP];omega
 ·intro l ih j i h
  rw [Mt] at h
  have := ih.1 j i h
  rw [leastP,mostP];omega
 ·intro l ih j i h
  rw [Mt] at h
  have := ih.2 j i h
  rw [leastP,mostP];omega
 ·intro mn mx p ih j i h
  rw [Mt] at h
  obtain ⟨t,h1,h2,h3⟩ := h
  have h4 := it_len ih t j i h3
  rw [leastP,mostP]
  have h5 := Nat.mul_le_mul_right (leastP p) h1
  have h6 := Nat.mul_le_mul_right (mostP p) h2
  omega
 ·refine ⟨fun j i h => ?_,fun j i h => ?_⟩
  ·rw [MtC] at h;subst h;rw [leastC,mostC];omega
  ·rw [MtA] at h;exact h.elim
 ·intro p l ih ih2
  refine ⟨fun j i h => ?_,fun j i h => ?_⟩
  ·rw [MtC] at h
   obtain ⟨k,h1,h2⟩ := h
   have a := ih j k h1
   have c := ih2.1 k i h2
   rw [leastC,mostC];omega
  ·rw [MtA] at h
   rw [leastA,mostA]
   rcases h with h | h
   ·have := ih j i h;omega
   ·have := ih2.2 j i h;omega
theorem it_any {R : Nat → Nat → Prop} {P : Nat → Prop} (hR : ∀ j i,R j i → j ≤ i) (h : ∀ j i,R j i → ∀ c,j ≤ c → c < i → P c) (t : Nat) : ∀ j i,It R t j i → j ≤ i ∧ ∀ c,j ≤ c → c < i → P c := by
 induction t with
 | zero => intro j i e;cases e;exact ⟨Nat.le_refl _,fun c h1 h2 => by omega⟩
 | succ t ih =>
  rintro j i ⟨k,h1,h2⟩
  have a := ih j k h1
  have d := hR k i h2
  refine ⟨by omega,fun c h3 h4 => ?_⟩
  by_cases hc : c < k
  ·exact a.2 c h3 hc
  ·exact h k i h2 c (by omega) h4
theorem mt_any (b : Nat → Nat) (n : Nat) (p : Pat) : ∀ j i,Mt b n p j i → ∀ c,j ≤ c → c < i → anyP p (b c) = true := by
 refine Pat.rec (motive_1 := fun p => ∀ j i,Mt b n p j i → ∀ c,j ≤ c → c < i → anyP p (b c) = true)
  (motive_2 := fun l => (∀ j i,MtC b n l j i → ∀ c,j ≤ c → c < i → anyL l (b c) = true) ∧ (∀ j i,MtA b n l j i → ∀ c,j ≤ c → c < i → anyL l (b c) = true)) ?_ ?_ ?_ ?_ ?_ ?_ p
 ·intro s j i h c h1 h2
  rw [Mt] at h
  obtain ⟨rfl,_,h3⟩ := h
  obtain rfl : c = j := by omega
  rw [anyP];exact h3
 ·intro l ih j i h c h1 h2
  rw [Mt] at h
  rw [anyP];exact ih.1 j i h c h1 h2
 ·intro l ih j i h c h1 h2
  rw [Mt] at h
  rw [anyP];exact ih.2 j i h c h1 h2
 ·intro mn mx p ih j i h c h1 h2
  rw [Mt] at h
  obtain ⟨t,_,_,h3⟩ := h
  rw [anyP]
  exact (it_any (fun j i h => (mt_len b n p j i h).1) ih t j i h3).2 c h1 h2
 ·refine ⟨fun j i h c h1 h2 => ?_,fun j i h => ?_⟩
  ·rw [MtC] at h;omega
  ·rw [MtA] at h;exact h.elim
 ·intro p l ih ih2
  refine ⟨fun j i h c h1 h2 => ?_,fun j i h c h1 h2 => ?_⟩
  ·rw [MtC] at h
   obtain ⟨k,h3,h4⟩ := h
   rw [anyL];dsimp only
   by_cases hc : c < k
   ·rw [ih j k h3 c h1 hc];rfl
   ·rw [ih2.1 k i h4 c (by omega) h2];simp
  ·rw [MtA] at h
   rw [anyL];dsimp only
   rcases h with h | h
   ·rw [ih j i h c h1 h2];rfl
   ·rw [ih2.2 j i h c h1 h2];simp
end Go.Proofs.YtgjcibhhffkemaaGreatDoor
namespace Go.Proofs.YtgjcibhhffkemaaGreatDoor
open Go.RowKit Bt
def NAt (w : World) (t : Tree) (kv : Value) : Prop := KAt (fun _ => True) w t kv
mutual
theorem KAt.lt {D : Nat → Prop} {w : World} : ∀ (t : Tree) (kv : Value),KAt D w t kv → KAt (fun b => D b ∧ b < w.heap.size) w t kv
 | .node op f mn mx kids,kv,h => by
  rw [KAt] at h ⊢
  rcases h with h | ⟨h1,hl,b,off,cap,h2,h3,h4,h5⟩
  ·exact .inl h
  ·have hb : b < w.heap.size := by
    match kids,h1 with
    | t :: l,_ =>
     rw [KRow] at h5
     obtain ⟨⟨kv',h6,_⟩,_⟩ := h5
     have h7 := h6 0 (by omega)
     rw [List.getElem?_eq_getElem (by rw [nodeL_len];omega)] at h7
     exact World.block_lt_of_cell? w _ h7
   exact .inr ⟨h1,hl,b,off,cap,h2,h3,⟨h4,hb⟩,KRow.lt kids b off h5⟩
theorem KRow.lt {D : Nat → Prop} {w : World} : ∀ (l : List Tree) (b off : Nat),KRow D w l b off → KRow (fun b => D b ∧ b < w.heap.size) w l b off
 | [],b,off,h => by rw [KRow];trivial
 | t :: l,b,off,h => by
  rw [KRow] at h ⊢
  obtain ⟨⟨kv,h1,h2⟩,h3⟩ := h
  exact ⟨⟨kv,h1,KAt.lt t kv h2⟩,KRow.lt l b (off + 8) h3⟩
end
theorem NAt.below {w w' : World} {t : Tree} {kv : Value} (h : NAt w t kv) (hb : Below w.heap.size w w') : NAt w' t kv :=
 KAt.keep (fun b hb' => hb.block b hb'.2) (fun _ _ => trivial) t kv (KAt.lt t kv h)
theorem NAt.of {D : Nat → Prop} {w : World} {t : Tree} {kv : Value} (h : KAt D w t kv) : NAt w t kv := KAt.mono h fun _ _ => trivial
theorem NAt.alloc {w : World} {t : Tree} {kv : Value} (h : NAt w t kv) (o : Obj) : NAt (w.alloc o) t kv := h.below ((Below.refl _ _).alloc (Nat.le_refl _) o)
structure Cell8 (w : World) (b o : Nat) (op : Int) (f : Nat → Bool) (mn mx : Int) (kv : Value) : Prop where
 c0 : w.cell? ⟨b,o,none⟩ = some (.int .i64 op)
 c1 : w.cell? ⟨b,o + 1,none⟩ = some (.int .u64 ((wd f 0 : Nat) : Int))
 c2 : w.cell? ⟨b,o + 2,none⟩ = some (.int .u64 ((wd f 1 : Nat) : Int))
 c3 : w.cell? ⟨b,o + 3,none⟩ = some (.int .u64 ((wd f 2 : Nat) : Int))
 c4 : w.cell? ⟨b,o + 4,none⟩ = some (.int .u64 ((wd f 3 : Nat) : Int))
 c5 : w.cell? ⟨b,o + 5,none⟩ = some (.int .i64 mn)
 c6 : w.cell? ⟨b,o + 6,none⟩ = some (.int .i64 mx)
 c7 : w.cell? ⟨b,o + 7,none⟩ = some kv
theorem kid_at {w : World} {op : Int} {f : Nat → Bool} {mn mx : Int} {kids : List Tree} {kv : Value} (h : NAt w (.node op f mn mx kids) kv) {j : Nat} {t : Tree} (hj : kids[j]? = some t) :
  ∃ b off cap,kv = .slice (some ⟨b,off,none⟩) kids.length cap ∧ kids.length ≤ cap ∧ ∃ op' f' mn' mx' kids' ka kc,t = .node op' f' mn' mx' kids' ∧ Cell8 w b (off + j * 8) op' f' mn' mx' (.slice ka kids'.length kc) ∧ NAt w t (.slice ka kids'.length kc) := by
 unfold NAt at h
 rw [KAt] at h
 rcases h with ⟨h,_⟩ | ⟨h1,hl,b,off,cap,h2,h3,h4,h5⟩
 ·rw [h] at hj;simp at hj
 obtain ⟨kv',h6,h7⟩ := KRow.get _ _ _ _ _ h5 hj
 obtain ⟨op',f',mn',mx',kids'⟩ := t
 obtain ⟨ka,kc,rfl⟩ := KAt.slice h7
 refine ⟨b,off,cap,h2,h3,op',f',mn',mx',kids',ka,kc,rfl,?_,h7⟩
 have hm : 8 * j = j * 8 := Nat.mul_comm _ _
 rw [hm] at h6
 exact ⟨h6 0 (by omega),h6 1 (by omega),h6 2 (by omega),h6 3 (by omega),h6 4 (by omega),h6 5 (by omega),h6 6 (by omega),h6 7 (by omega)⟩
theorem trees_get {l : List Pat} {k : Nat} (h : k < l.length) : (Pat.trees l)[k]? = some (l[k].tree) := by rw [Pat.trees_map,List.getElem?_map,List.getElem?_eq_getElem h];rfl
theorem mostC_snoc (l : List Pat) (k : Nat) (h : k < l.length) : mostC (l.take (k + 1)) = mostC (l.take k) + mostP l[k] := by
 have key : ∀ (a b : List Pat),mostC (a ++ b) = mostC a + mostC b := fun a b => by
  induction a with
  | nil => simp [mostC]
  | cons p a ih => rw [List.cons_append,mostC,mostC,ih];omega
 rw [List.take_succ_eq_append_getElem h,key,mostC,mostC];omega
theorem mostP_le (p : Pat) : mostP p ≤ 1000 := by cases p <;> rw [mostP] <;> omega
theorem mostC_le (l : List Pat) : mostC l ≤ l.length * 1000 := by
 induction l with
 | nil => simp [mostC]
 | cons p l ih => rw [mostC,List.length_cons];have := mostP_le p;omega
theorem mostA_le (l : List Pat) : mostA l ≤ 1000 := by
 induction l with
 | nil => simp [mostA]
 | cons p l ih => rw [mostA];have := mostP_le p;omega
theorem mostA_snoc (l : List Pat) (k : Nat) (h : k < l.length) : mostA (l.take (k + 1)) = max (mostA (l.take k)) (mostP l[k]) := by
 have key : ∀ (a b : List Pat),mostA (a ++ b) = max (mostA a) (mostA b) := fun a b => by
  induction a with
  | nil => simp [mostA]
  | cons p a ih => rw [List.cons_append,mostA,mostA,ih];omega
 rw [List.take_succ_eq_append_getElem h,key,mostA,mostA];omega
end Go.Proofs.YtgjcibhhffkemaaGreatDoor
namespace Go.Proofs.YtgjcibhhffkemaaGreatDoor
open Go.RowKit Bt
theorem Cell8.below {w w' : World} {b o : Nat} {op : Int} {f : Nat → Bool} {mn mx : Int} {kv : Value} (h : Cell8 w b o op f mn mx kv) (hb : Below w.heap.size w w') : Cell8 w' b o op f mn mx kv := by
 have hl : b < w.heap.size := World.block_lt_of_cell? w _ h.c0
 have e : ∀ i,w'.cell? ⟨b,i,none⟩ = w.cell? ⟨b,i,none⟩ := fun i => hb.cell (p := ⟨b,i,none⟩) hl
 exact ⟨(e _).trans h.c0,(e _).trans h.c1,(e _).trans h.c2,(e _).trans h.c3,(e _).trans h.c4,(e _).trans h.c5,(e _).trans h.c6,(e _).trans h.c7⟩
theorem anyL_snoc (l : List Pat) (k : Nat) (h : k < l.length) (x : Nat) : anyL (l.take (k + 1)) x = (anyL (l.take k) x || anyP l[k] x) := by
 have key : ∀ (a b : List Pat),anyL (a ++ b) x = (anyL a x || anyL b x) := fun a b => by
  induction a with
  | nil => simp [anyL]
  | cons p a ih => rw [List.cons_append,anyL,anyL];show (anyP p x || anyL (a ++ b) x) = ((anyP p x || anyL a x) || anyL b x);rw [ih,Bool.or_assoc]
 rw [List.take_succ_eq_append_getElem h,key];simp [anyL]
def pAnyC (p : Pat) : Prop := ∀ (w : World) (a : Option Addr) (n c : Nat),NAt w p.tree (.slice a n c) → Calls Tryz.prog 19 #[nodeV p.tree (.slice a n c)] w fun e w' => e = .returned (setOf (anyP p)) ∧ Below w.heap.size w w'
set_option maxRecDepth 100000 in
set_option maxHeartbeats 1600000 in
theorem pAny_node (op : Int) (f : Nat → Bool) (mn mx : Int) (ps : List Pat) (hl : ps.length ≤ 1000) (ih : ∀ p ∈ ps,pAnyC p) (w : World) (a : Option Addr) (c : Nat) (h : NAt w (.node op f mn mx (Pat.trees ps)) (.slice a ps.length c)) :
  Calls Tryz.prog 19 #[.agg #[.int .i64 op,.int .u64 ((wd f 0 : Nat) : Int),.int .u64 ((wd f 1 : Nat) : Int),.int .u64 ((wd f 2 : Nat) : Int),.int .u64 ((wd f 3 : Nat) : Int),.int .i64 mn,.int .i64 mx,.slice a ps.length c]] w fun e w' => e = .returned (setOf fun x => f x || anyL ps x) ∧ Below w.heap.size w w' := by
 obtain ⟨w0,hw0⟩ : ∃ w0 : World,w0 = ((w.alloc (.cells (nodeC op f mn mx (.slice a ps.length c)) 41)).alloc (.cells (setC 0 0 0 0) 38)).alloc (.cells (cellsOf f) 38) := ⟨_,rfl⟩
 have H := Lib.hid h
 have HA : Hid (AtG w0 w.heap.size 41 (nodeC op f mn mx (.slice a ps.length c))) := Lib.hid (by rw [hw0];exact ((AtG.new _ _ _).alloc _).alloc _)
 have HR : Hid (AtG w0 (w.heap.size + 1) 38 (setC 0 0 0 0)) := Lib.hid (by
  rw [hw0]
  have := (AtG.new (w.alloc (.cells (nodeC op f mn mx (.slice a ps.length c)) 41)) 38 (setC 0 0 0 0)).alloc (.cells (cellsOf f) 38)
  simpa using this)
 have HS : Hid (AtG w0 (w.heap.size + 1 + 1) 38 (cellsOf fun x => f x || anyL (ps.take 0) x)) := Lib.hid (by
  rw [hw0,show (cellsOf fun x => f x || anyL (ps.take 0) x) = cellsOf f from cellsOf_ext fun x _ => by simp [anyL]]
  have := AtG.new ((w.alloc (.cells (nodeC op f mn mx (.slice a ps.length c)) 41)).alloc (.cells (setC 0 0 0 0) 38)) 38 (cellsOf f)
  simpa using this)
 have HB0 : Hid (Below w.heap.size w w0) := Lib.hid (by rw [hw0];go_grown)
 have hlI : (ps.length : Int) ≤ 1000 := by omega
 have hw0' : ((w.alloc (.cells #[.int .i64 op,.int .u64 ((wd f 0 : Nat) : Int),.int .u64 ((wd f 1 : Nat) : Int),.int .u64 ((wd f 2 : Nat) : Int),.int .u64 ((wd f 3 : Nat) : Int),.int .i64 mn,.int .i64 mx,.slice a ps.length c] 41)).alloc (.cells (setC 0 0 0 0) 38)).alloc (.cells #[.int .u64 ((wd f 0 : Nat) : Int),.int .u64 ((wd f 1 : Nat) : Int),.int .u64 ((wd f 2 : Nat) : Int),.int .u64 ((wd f 3 : Nat) : Int)] 38) = w0 := hw0.symm
 have m0 : w0.cell? ⟨w.heap.size,0,none⟩ = some (.int .i64 op) := HA.out.cell 0 _ rfl
 have m1 : w0.cell? ⟨w.heap.size,1,none⟩ = some (.int .u64 ((wd f 0 : Nat) : Int)) := HA.out.cell 1 _ rfl
 have m2 : w0.cell? ⟨w.heap.size,2,none⟩ = some (.int .u64 ((wd f 1 : Nat) : Int)) := HA.out.cell 2 _ rfl
 have m3 : w0.cell? ⟨w.heap.size,3,none⟩ = some (.int .u64 ((wd f 2 : Nat) : Int)) := HA.out.cell 3 _ rfl
 have m4 : w0.cell? ⟨w.heap.size,4,none⟩ = some (.int .u64 ((wd f 3 : Nat) : Int)) := HA.out.cell 4 _ rfl
 have m5 : w0.cell? ⟨w.heap.size,5,none⟩ = some (.int .i64 mn) := HA.out.cell 5 _ rfl
 have m6 : w0.cell? ⟨w.heap.size,6,none⟩ = some (.int .i64 mx) := HA.out.cell 6 _ rfl
 have m7 : w0.cell? ⟨w.heap.size,7,none⟩ = some (.slice a ps.length c) := HA.out.cell 7 _ rfl
 clear h hw0
 unfold setOf
 go_enter Tryz.func19,Tryz.ntmps19
 go_wp2_with fail
 clear hw0' m0 m1 m2 m3 m4 m5 m6 m7
 go_loopw [11] (fun i wr => ∃ k : Nat,k ≤ ps.length ∧ i = .int .i64 k ∧ AtG wr w.heap.size 41 (nodeC op f mn mx (.slice a ps.length c)) ∧ AtG wr (w.heap.size + 1) 38 (setC 0 0 0 0) ∧ AtG wr (w.heap.size + 1 + 1) 38 (cellsOf fun x => f x || anyL (ps.take k) x) ∧ Below w.heap.size w wr) (fun i _ => ps.length - (intOf i).toNat)
 case atStart => exact ⟨0,Nat.zero_le _,rfl,HA.out,HR.out,HS.out,HB0.out⟩
 case round =>
  clear HA HR HS HB0
  obtain ⟨k,hk,rfl,hat,hrs,hst,hb⟩ := hrel
  have HAT := Lib.hid hat;have HB := Lib.hid hb;have HRS := Lib.hid hrs;have HST := Lib.hid hst
  have m7 : wr.cell? ⟨w.heap.size,7,none⟩ = some (.slice a ps.length c) := hat.cell 7 _ rfl
  clear hat hb hrs hst
  by_cases hlt : k < ps.length
  ·obtain ⟨b,off,cap,heq,hcap,op',f',mn',mx',kids',ka,kc,ht,hc8,hkn⟩ := kid_at H.out (trees_get hlt)
   injection heq with e1 e2 e3
   subst e1;subst e3
   clear e2
   rw [trees_len] at hcap
   have hI := ih ps[k] (List.getElem_mem hlt)
   unfold pAnyC at hI
   rw [ht] at hI hkn
   have hI2 := fun w h => hI w ka kids'.length kc h
   unfold nodeV at hI2
   have HE : Hid ((fun x => (f x || anyL (ps.take k) x) || anyP ps[k] x) = fun x => f x || anyL (ps.take (k + 1)) x) := Lib.hid (by
    funext x;rw [anyL_snoc ps k hlt,Bool.or_assoc])
   generalize anyP ps[k] = G at *
   obtain ⟨F,hF⟩ : ∃ F : Nat → Bool,F = fun x => f x || anyL (ps.take k) x := ⟨_,rfl⟩
   have HE2 : Hid ((fun x => F x || G x) = fun x => f x || anyL (ps.take (k + 1)) x) := Lib.hid (by rw [← HE.out,hF])
   rw [← hF] at HST
   have HI := Lib.hid hI2;have HKN := Lib.hid hkn
   obtain ⟨kn,hkl⟩ : ∃ kn,kn = kids'.length := ⟨_,rfl⟩
   rw [← hkl] at HKN HI hc8
   have HC8 := Lib.hid hc8
   have hlb : b < w.heap.size := World.block_lt_of_cell? w _ hc8.c0
   have HWS := Lib.hid HB.out.size
   clear hkn hI hI2 hkl ht hF HE hc8
   obtain ⟨c0,c1,c2,c3,c4,c5,c6,c7⟩ := Cell8.below HC8.out HB.out
   go_upto_region 5 with (fail)
   have HAT1 := Lib.hid (HAT.out.alloc (.cells (nodeC op' f' mn' mx' (.slice ka kn kc)) 41));have HRS1 := Lib.hid (HRS.out.alloc (.cells (nodeC op' f' mn' mx' (.slice ka kn kc)) 41));have HST1 := Lib.hid (HST.out.alloc (.cells (nodeC op' f' mn' mx' (.slice ka kn kc)) 41));have HB1 := Lib.hid (HB.out.alloc HB.out.size (.cells (nodeC op' f' mn' mx' (.slice ka kn kc)) 41));have HC1 := Lib.hid (AtG.new wr 41 (nodeC op' f' mn' mx' (.slice ka kn kc)))
   have HNE : Hid (wr.heap.size ≠ w.heap.size + 1 + 1) := Lib.hid (by have := HST.out.lt;omega)
   clear c0 c1 c2 c3 c4 c5 c6 c7
   refine RgX.start (by kernel_rfl) [(4,fun w5 w6 => ∃ g,w6 = putS w5 (w.heap.size + 1 + 1) g)] [⟨fun w5 => AtG w5 w.heap.size 41 (nodeC op f mn mx (.slice (some ⟨b,off,none⟩) ps.length c)) ∧ AtG w5 (w.heap.size + 1) 38 (setC 0 0 0 0) ∧ Below w.heap.size w w5 ∧ AtG w5 wr.heap.size 41 (nodeC op' f' mn' mx' (.slice ka kn kc)),none⟩,⟨fun w5 => AtG w5 (w.heap.size + 1 + 1) 38 (cellsOf F),some 4⟩] ⟨⟨fun _ _ h hb => ⟨h.1.below hb,h.2.1.below hb,h.2.2.1.trans (hb.mono h.2.2.1.size),h.2.2.2.below hb⟩,⟨fun _ _ _ _ => (fun w5 w6 h he => by obtain ⟨g,rfl⟩ := he;exact ⟨putS_far h.1 (by omega) _,putS_far h.2.1 (by omega) _,putS_below h.2.2.1 (by omega) _,putS_far h.2.2.2 HNE.out _⟩),trivial⟩⟩,⟨fun _ _ h hb => h.below hb,⟨fun _ h _ _ => absurd rfl h,trivial⟩⟩,trivial⟩ (by kernel_rfl) (by kernel_rfl) ⟨⟨HAT1.out.drew,HRS1.out.drew,HB1.out.drew,HC1.out.drew⟩,HST1.out.drew,trivial⟩ ?_
   show RgX.Build _ _ _ _ _ _ 0 [_,_,_,_,_] []
   refine RgX.cp 1 rfl rfl (by intro ax wx hk Kx hK;have k3 := hk.base 3 _ rfl rfl;have hL := hk.fact 0 0 _ rfl rfl;(try dsimp only at hL);have hs := hk.fact 1 1 _ rfl rfl;(try dsimp only at hs);clear hk;have z0 : wx.cell? ⟨w.heap.size + 1 + 1,0,none⟩ = some (.int .u64 ((wd (F) 0 : Nat) : Int)) := hs.cell 0 _ rfl;have z1 : wx.cell? ⟨w.heap.size + 1 + 1,1,none⟩ = some (.int .u64 ((wd (F) 1 : Nat) : Int)) := hs.cell 1 _ rfl;have z2 : wx.cell? ⟨w.heap.size + 1 + 1,2,none⟩ = some (.int .u64 ((wd (F) 2 : Nat) : Int)) := hs.cell 2 _ rfl;have z3 : wx.cell? ⟨w.heap.size + 1 + 1,3,none⟩ = some (.int .u64 ((wd (F) 3 : Nat) : Int)) := hs.cell 3 _ rfl;go_simp;exact hK _ _ (fun h => by cases h) (fun _ _ => rfl) (Below.refl _ _)) ?_
   refine RgX.cp 2 rfl rfl (by intro ax wx hk Kx hK;have k5 := hk.base 5 _ rfl rfl;have hL := hk.fact 0 0 _ rfl rfl;(try dsimp only at hL);have hs := hk.fact 1 1 _ rfl rfl;(try dsimp only at hs);clear hk;have q0 : wx.cell? ⟨wr.heap.size,0,none⟩ = some (.int .i64 op') := hL.2.2.2.cell 0 _ rfl;have q1 : wx.cell? ⟨wr.heap.size,1,none⟩ = some (.int .u64 ((wd f' 0 : Nat) : Int)) := hL.2.2.2.cell 1 _ rfl;have q2 : wx.cell? ⟨wr.heap.size,2,none⟩ = some (.int .u64 ((wd f' 1 : Nat) : Int)) := hL.2.2.2.cell 2 _ rfl;have q3 : wx.cell? ⟨wr.heap.size,3,none⟩ = some (.int .u64 ((wd f' 2 : Nat) : Int)) := hL.2.2.2.cell 3 _ rfl;have q4 : wx.cell? ⟨wr.heap.size,4,none⟩ = some (.int .u64 ((wd f' 3 : Nat) : Int)) := hL.2.2.2.cell 4 _ rfl;have q5 : wx.cell? ⟨wr.heap.size,5,none⟩ = some (.int .i64 mn') := hL.2.2.2.cell 5 _ rfl;have q6 : wx.cell? ⟨wr.heap.size,6,none⟩ = some (.int .i64 mx') := hL.2.2.2.cell 6 _ rfl;have q7 : wx.cell? ⟨wr.heap.size,7,none⟩ = some (.slice ka kn kc) := hL.2.2.2.cell 7 _ rfl;go_simp;exact hK _ _ (fun h => by cases h) (fun _ _ => rfl) (Below.refl _ _)) ?_
   refine RgX.cp 3 rfl rfl (by intro ax wx hk Kx hK;have k16 := hk.e 0 1 16 rfl rfl rfl;have hL := hk.fact 0 0 _ rfl rfl;(try dsimp only at hL);have hs := hk.fact 1 1 _ rfl rfl;(try dsimp only at hs);clear hk;go_simp;refine (HI.out _ (NAt.below HKN.out hL.2.2.1)).mono ?_;rintro e w' ⟨rfl,hb⟩;refine hK _ _ (fun h => by cases h) (fun _ _ => ?_) hb;apply RgX.mk) ?_
   refine RgX.cp 4 rfl rfl (by intro ax wx hk Kx hK;have k15 := hk.e 0 0 15 rfl rfl rfl;have k17 := hk.e 0 2 17 rfl rfl rfl;have hL := hk.fact 0 0 _ rfl rfl;(try dsimp only at hL);have hs := hk.fact 1 1 _ rfl rfl;(try dsimp only at hs);clear hk;go_simp;refine (or_any F G _).mono ?_;rintro e w' ⟨rfl,hb⟩;refine hK _ _ (fun h => by cases h) (fun _ _ => ?_) hb;apply RgX.mk) ?_
   refine RgX.build_cons (m := 5) (r := (⟨fun _ _ w5 => AtG w5 (w.heap.size + 1 + 1) 38 (cellsOf fun x => F x || G x),none,none⟩ : RgX.Rl)) (RgX.one_plain rfl (by intro ax wx hk Kx hK;have k3 := hk.base 3 _ rfl rfl;have k18 := hk.e 0 3 18 rfl rfl rfl;have hL := hk.fact 0 0 _ rfl rfl;(try dsimp only at hL);have hs := hk.fact 1 0 _ rfl rfl;(try dsimp only at hs);clear hk;(have d0 : wx.cell? ⟨w.heap.size + 1 + 1,0,none⟩ = some (.int .u64 ((wd (F) 0 : Nat) : Int)) := hs.cell 0 _ rfl;have d1 : wx.cell? ⟨w.heap.size + 1 + 1,1,none⟩ = some (.int .u64 ((wd (F) 1 : Nat) : Int)) := hs.cell 1 _ rfl;have d2 : wx.cell? ⟨w.heap.size + 1 + 1,2,none⟩ = some (.int .u64 ((wd (F) 2 : Nat) : Int)) := hs.cell 2 _ rfl;have d3 : wx.cell? ⟨w.heap.size + 1 + 1,3,none⟩ = some (.int .u64 ((wd (F) 3 : Nat) : Int)) := hs.cell 3 _ rfl;have f0 := hs.frozen 0;have f1 := hs.frozen 1;have f2 := hs.frozen 2;have f3 := hs.frozen 3;unfold setOf at k18;go_simp;exact hK undef _ (fun _ => rfl) (fun u hu => putS_at hs _) ⟨_,rfl⟩))) ?_ rfl (RgX.keep_r (fun _ _ _ _ h hb => h.below hb) (fun _ _ => ⟨fun h _ _ _ => absurd rfl h,trivial⟩)) (fun _ h => by cases h)
   refine RgX.build_end fun wx hj => ?_
   have hL := hj 0 _ rfl rfl
   clear hj
   iterate 4 refine RgX.fin_eq rfl ?_
   refine RgX.fin_none rfl fun s4 => ?_
   refine RgX.fin_nil ?_
   simp only [List.set_cons_zero,List.set_cons_succ]
   have hs5 := s4 rfl undef rfl
   rw [HE2.out] at hs5
   have HL := Lib.hid hL;have HS5 := Lib.hid hs5
   clear s4 hL hs5
   go_wp2_with fail
   exact ⟨⟨k + 1,by omega,by go_num,HL.out.1,HL.out.2.1,HS5.out,HL.out.2.2.1⟩,by simp [intOf];omega⟩
  ·obtain rfl : k = ps.length := by omega
   rw [List.take_length] at HST
   obtain ⟨F,hF⟩ : ∃ F : Nat → Bool,F = fun x => f x || anyL ps x := ⟨_,rfl⟩
   rw [← hF] at HST
   have HF := Lib.hid hF
   clear hF
   have z0 : wr.cell? ⟨w.heap.size + 1 + 1,0,none⟩ = some (.int .u64 ((wd (F) 0 : Nat) : Int)) := HST.out.cell 0 _ rfl
   have z1 : wr.cell? ⟨w.heap.size + 1 + 1,1,none⟩ = some (.int .u64 ((wd (F) 1 : Nat) : Int)) := HST.out.cell 1 _ rfl
   have z2 : wr.cell? ⟨w.heap.size + 1 + 1,2,none⟩ = some (.int .u64 ((wd (F) 2 : Nat) : Int)) := HST.out.cell 2 _ rfl
   have z3 : wr.cell? ⟨w.heap.size + 1 + 1,3,none⟩ = some (.int .u64 ((wd (F) 3 : Nat) : Int)) := HST.out.cell 3 _ rfl
   have d0 := (HRS.out).cell 0 _ rfl;have d1 := (HRS.out).cell 1 _ rfl;have d2 := (HRS.out).cell 2 _ rfl;have d3 := (HRS.out).cell 3 _ rfl
   have f0 := (HRS.out).frozen 0;have f1 := (HRS.out).frozen 1;have f2 := (HRS.out).frozen 2;have f3 := (HRS.out).frozen 3
   go_wp2_with fail
   refine bodyPost_ret (v := setOf F) (by simp [results,Tryz.results19,go_sem,d0,d1,d2,d3];try rfl) rfl ⟨by rw [HF.out];rfl,?_⟩
   exact putS_below HB.out (by omega) F
theorem pAny_any (p : Pat) : Wf p → pAnyC p := by
 refine Pat.ind (M := fun p => Wf p → pAnyC p) ?_ ?_ ?_ ?_ p
 ·intro f _ w a n c h
  obtain rfl : n = 0 := by
   obtain ⟨a',c',hn⟩ := KAt.slice h
   injection hn with _ hn _
  have := pAny_node 1 f 0 0 [] (by simp) (by simp) w a c h
  rw [show (fun x => f x || anyL [] x) = anyP (.one f) from by funext x;simp [anyL,anyP]] at this
  exact this
 ·intro l ih hw w a n c h
  cases hw with | cat _ h1 h2 h3 =>
  obtain rfl : n = l.length := by
   obtain ⟨a',c',hn⟩ := KAt.slice h
   injection hn with _ hn _
   rw [trees_len] at hn;exact hn
  have := pAny_node 2 emp 0 0 l h3 (fun p hp => ih p hp (h1 p hp)) w a c h
  rw [show (fun x => emp x || anyL l x) = anyP (.cat l) from by funext x;simp [emp,anyP]] at this
  exact this
 ·intro l ih hw w a n c h
  cases hw with | alt _ h1 h2 h3 =>
  obtain rfl : n = l.length := by
   obtain ⟨a',c',hn⟩ := KAt.slice h
   injection hn with _ hn _
   rw [trees_len] at hn;exact hn
  have := pAny_node 3 emp 0 0 l h3 (fun p hp => ih p hp (h1 p hp)) w a c h
  rw [show (fun x => emp x || anyL l x) = anyP (.alt l) from by funext x;simp [emp,anyP]] at this
  exact this
 ·intro mn mx p ih hw w a n c h
  cases hw with | rep _ _ _ h1 h2 h3 h4 =>
  obtain rfl : n = 1 := by
   obtain ⟨a',c',hn⟩ := KAt.slice h
   injection hn with _ hn _
  have := pAny_node 4 emp (mn : Int) (mx : Int) [p] (by simp) (fun q hq => by simp at hq;subst hq;exact ih h1) w a c h
  rw [show (fun x => emp x || anyL [p] x) = anyP (.rep mn mx p) from by funext x;simp [emp,anyL,anyP]] at this
  exact this
def rAnyC (p : Pat) : Prop := ∀ (w : World) (a : Option Addr) (n c : Nat),NAt w p.tree (.slice a n c) → Calls Tryz.prog 32 #[nodeV p.tree (.slice a n c)] w fun e w' => e = .returned (setOf (anyP p)) ∧ Below w.heap.size w w'
set_option maxRecDepth 100000 in
set_option maxHeartbeats 1600000 in
theorem rAny_node (op : Int) (f : Nat → Bool) (mn mx : Int) (ps : List Pat) (hl : ps.length ≤ 1000) (ih : ∀ p ∈ ps,rAnyC p) (w : World) (a : Option Addr) (c : Nat) (h : NAt w (.node op f mn mx (Pat.trees ps)) (.slice a ps.length c)) :
  Calls Tryz.prog 32 #[.agg #[.int .i64 op,.int .u64 ((wd f 0 : Nat) : Int),.int .u64 ((wd f 1 : Nat) : Int),.int .u64 ((wd f 2 : Nat) : Int),.int .u64 ((wd f 3 : Nat) : Int),.int .i64 mn,.int .i64 mx,.slice a ps.length c]] w fun e w' => e = .returned (setOf fun x => f x || anyL ps x) ∧ Below w.heap.size w w' := by
 obtain ⟨w0,hw0⟩ : ∃ w0 : World,w0 = ((w.alloc (.cells (nodeC op f mn mx (.slice a ps.length c)) 41)).alloc (.cells (setC 0 0 0 0) 38)).alloc (.cells (cellsOf f) 38) := ⟨_,rfl⟩
 have H := Lib.hid h
 have HA : Hid (AtG w0 w.heap.size 41 (nodeC op f mn mx (.slice a ps.length c))) := Lib.hid (by rw [hw0];exact ((AtG.new _ _ _).alloc _).alloc _)
 have HR : Hid (AtG w0 (w.heap.size + 1) 38 (setC 0 0 0 0)) := Lib.hid (by
  rw [hw0]
  have := (AtG.new (w.alloc (.cells (nodeC op f mn mx (.slice a ps.length c)) 41)) 38 (setC 0 0 0 0)).alloc (.cells (cellsOf f) 38)
  simpa using this)
 have HS : Hid (AtG w0 (w.heap.size + 1 + 1) 38 (cellsOf fun x => f x || anyL (ps.take 0) x)) := Lib.hid (by
  rw [hw0,show (cellsOf fun x => f x || anyL (ps.take 0) x) = cellsOf f from cellsOf_ext fun x _ => by simp [anyL]]
  have := AtG.new ((w.alloc (.cells (nodeC op f mn mx (.slice a ps.length c)) 41)).alloc (.cells (setC 0 0 0 0) 38)) 38 (cellsOf f)
  simpa using this)
 have HB0 : Hid (Below w.heap.size w w0) := Lib.hid (by rw [hw0];go_grown)
 have hlI : (ps.length : Int) ≤ 1000 := by omega
 have hw0' : ((w.alloc (.cells #[.int .i64 op,.int .u64 ((wd f 0 : Nat) : Int),.int .u64 ((wd f 1 : Nat) : Int),.int .u64 ((wd f 2 : Nat) : Int),.int .u64 ((wd f 3 : Nat) : Int),.int .i64 mn,.int .i64 mx,.slice a ps.length c] 41)).alloc (.cells (setC 0 0 0 0) 38)).alloc (.cells #[.int .u64 ((wd f 0 : Nat) : Int),.int .u64 ((wd f 1 : Nat) : Int),.int .u64 ((wd f 2 : Nat) : Int),.int .u64 ((wd f 3 : Nat) : Int)] 38) = w0 := hw0.symm
 have m0 : w0.cell? ⟨w.heap.size,0,none⟩ = some (.int .i64 op) := HA.out.cell 0 _ rfl
 have m1 : w0.cell? ⟨w.heap.size,1,none⟩ = some (.int .u64 ((wd f 0 : Nat) : Int)) := HA.out.cell 1 _ rfl
 have m2 : w0.cell? ⟨w.heap.size,2,none⟩ = some (.int .u64 ((wd f 1 : Nat) : Int)) := HA.out.cell 2 _ rfl
 have m3 : w0.cell? ⟨w.heap.size,3,none⟩ = some (.int .u64 ((wd f 2 : Nat) : Int)) := HA.out.cell 3 _ rfl
 have m4 : w0.cell? ⟨w.heap.size,4,none⟩ = some (.int .u64 ((wd f 3 : Nat) : Int)) := HA.out.cell 4 _ rfl
 have m5 : w0.cell? ⟨w.heap.size,5,none⟩ = some (.int .i64 mn) := HA.out.cell 5 _ rfl
 have m6 : w0.cell? ⟨w.heap.size,6,none⟩ = some (.int .i64 mx) := HA.out.cell 6 _ rfl
 have m7 : w0.cell? ⟨w.heap.size,7,none⟩ = some (.slice a ps.length c) := HA.out.cell 7 _ rfl
 clear h hw0
 unfold setOf
 go_enter Tryz.func32,Tryz.ntmps32
 go_wp2_with fail
 clear hw0' m0 m1 m2 m3 m4 m5 m6 m7
 go_loopw [4] (fun i wr => ∃ k : Nat,k ≤ ps.length ∧ i = .int .i64 k ∧ AtG wr w.heap.size 41 (nodeC op f mn mx (.slice a ps.length c)) ∧ AtG wr (w.heap.size + 1) 38 (setC 0 0 0 0) ∧ AtG wr (w.heap.size + 1 + 1) 38 (cellsOf fun x => f x || anyL (ps.take k) x) ∧ Below w.heap.size w wr) (fun i _ => ps.length - (intOf i).toNat)
 case atStart => exact ⟨0,Nat.zero_le _,rfl,HA.out,HR.out,HS.out,HB0.out⟩
 case round =>
  clear HA HR HS HB0
  obtain ⟨k,hk,rfl,hat,hrs,hst,hb⟩ := hrel
  have HAT := Lib.hid hat;have HB := Lib.hid hb;have HRS := Lib.hid hrs;have HST := Lib.hid hst
  have m7 : wr.cell? ⟨w.heap.size,7,none⟩ = some (.slice a ps.length c) := hat.cell 7 _ rfl
  clear hat hb hrs hst
  by_cases hlt : k < ps.length
  ·obtain ⟨b,off,cap,heq,hcap,op',f',mn',mx',kids',ka,kc,ht,hc8,hkn⟩ := kid_at H.out (trees_get hlt)
   injection heq with e1 e2 e3
   subst e1;subst e3
   clear e2
   rw [trees_len] at hcap
   have hI := ih ps[k] (List.getElem_mem hlt)
   unfold rAnyC at hI
   rw [ht] at hI hkn
   have hI2 := fun w h => hI w ka kids'.length kc h
   unfold nodeV at hI2
   have HE : Hid ((fun x => (f x || anyL (ps.take k) x) || anyP ps[k] x) = fun x => f x || anyL (ps.take (k + 1)) x) := Lib.hid (by
    funext x;rw [anyL_snoc ps k hlt,Bool.or_assoc])
   generalize anyP ps[k] = G at *
   obtain ⟨F,hF⟩ : ∃ F : Nat → Bool,F = fun x => f x || anyL (ps.take k) x := ⟨_,rfl⟩
   have HE2 : Hid ((fun x => F x || G x) = fun x => f x || anyL (ps.take (k + 1)) x) := Lib.hid (by rw [← HE.out,hF])
   rw [← hF] at HST
   have HI := Lib.hid hI2;have HKN := Lib.hid hkn
   obtain ⟨kn,hkl⟩ : ∃ kn,kn = kids'.length := ⟨_,rfl⟩
   rw [← hkl] at HKN HI hc8
   have HC8 := Lib.hid hc8
   have hlb : b < w.heap.size := World.block_lt_of_cell? w _ hc8.c0
   have HWS := Lib.hid HB.out.size
   clear hkn hI hI2 hkl ht hF HE hc8
   go_upto_region 5 with (fail)
   refine RgX.start (by kernel_rfl) [(8,fun w5 w6 => ∃ g,w6 = putS w5 (w.heap.size + 1 + 1) g)] [⟨fun w5 => AtG w5 w.heap.size 41 (nodeC op f mn mx (.slice (some ⟨b,off,none⟩) ps.length c)) ∧ AtG w5 (w.heap.size + 1) 38 (setC 0 0 0 0) ∧ Below w.heap.size w w5,none⟩,⟨fun w5 => AtG w5 (w.heap.size + 1 + 1) 38 (cellsOf F),some 8⟩] ⟨⟨fun _ _ h hb => ⟨h.1.below hb,h.2.1.below hb,h.2.2.trans (hb.mono h.2.2.size)⟩,⟨fun _ _ _ _ => (fun w5 w6 h he => by obtain ⟨g,rfl⟩ := he;exact ⟨putS_far h.1 (by omega) _,putS_far h.2.1 (by omega) _,putS_below h.2.2 (by omega) _⟩),trivial⟩⟩,⟨fun _ _ h hb => h.below hb,⟨fun _ h _ _ => absurd rfl h,trivial⟩⟩,trivial⟩ (by kernel_rfl) (by kernel_rfl) ⟨⟨HAT.out.drew,HRS.out.drew,HB.out.drew⟩,HST.out.drew,trivial⟩ ?_
   show RgX.Build _ _ _ _ _ _ 0 [_,_,_,_,_,_,_,_,_] []
   refine RgX.cp 1 rfl rfl (by intro ax wx hk Kx hK;have k3 := hk.base 3 _ rfl rfl;have hL := hk.fact 0 0 _ rfl rfl;(try dsimp only at hL);have hs := hk.fact 1 1 _ rfl rfl;(try dsimp only at hs);clear hk;have z0 : wx.cell? ⟨w.heap.size + 1 + 1,0,none⟩ = some (.int .u64 ((wd (F) 0 : Nat) : Int)) := hs.cell 0 _ rfl;have z1 : wx.cell? ⟨w.heap.size + 1 + 1,1,none⟩ = some (.int .u64 ((wd (F) 1 : Nat) : Int)) := hs.cell 1 _ rfl;have z2 : wx.cell? ⟨w.heap.size + 1 + 1,2,none⟩ = some (.int .u64 ((wd (F) 2 : Nat) : Int)) := hs.cell 2 _ rfl;have z3 : wx.cell? ⟨w.heap.size + 1 + 1,3,none⟩ = some (.int .u64 ((wd (F) 3 : Nat) : Int)) := hs.cell 3 _ rfl;go_simp;exact hK _ _ (fun h => by cases h) (fun _ _ => rfl) (Below.refl _ _)) ?_
   refine RgX.cp 2 rfl rfl (by intro ax wx hk Kx hK;have k1 := hk.base 1 _ rfl rfl;clear hk;go_simp;exact hK _ _ (fun h => by cases h) (fun _ _ => rfl) (Below.refl _ _)) ?_
   refine RgX.cp 3 rfl rfl (by intro ax wx hk Kx hK;have k15 := hk.e 0 1 15 rfl rfl rfl;have hL := hk.fact 0 0 _ rfl rfl;(try dsimp only at hL);have hs := hk.fact 1 1 _ rfl rfl;(try dsimp only at hs);clear hk;have m7 : wx.cell? ⟨w.heap.size,7,none⟩ = some (.slice (some ⟨b,off,none⟩) ps.length c) := hL.1.cell 7 _ rfl;go_simp;exact hK _ _ (fun h => by cases h) (fun _ _ => rfl) (Below.refl _ _)) ?_
   refine RgX.cp 4 rfl rfl (by intro ax wx hk Kx hK;have k4 := hk.base 4 _ rfl rfl;have hL := hk.fact 0 0 _ rfl rfl;(try dsimp only at hL);have hs := hk.fact 1 1 _ rfl rfl;(try dsimp only at hs);clear hk;go_simp;exact hK _ _ (fun h => by cases h) (fun _ _ => rfl) (Below.refl _ _)) ?_
   refine RgX.cp 5 rfl rfl (by intro ax wx hk Kx hK;have k16 := hk.e 0 2 16 rfl rfl rfl;have k17 := hk.e 0 3 17 rfl rfl rfl;clear hk;go_simp;exact hK _ _ (fun h => by cases h) (fun _ _ => rfl) (Below.refl _ _)) ?_
   refine RgX.cp 6 rfl rfl (by intro ax wx hk Kx hK;have k18 := hk.e 0 4 18 rfl rfl rfl;have hL := hk.fact 0 0 _ rfl rfl;(try dsimp only at hL);have hs := hk.fact 1 1 _ rfl rfl;(try dsimp only at hs);clear hk;obtain ⟨c0,c1,c2,c3,c4,c5,c6,c7⟩ := Cell8.below HC8.out hL.2.2;go_simp;exact hK _ _ (fun h => by cases h) (fun _ _ => rfl) (Below.refl _ _)) ?_
   refine RgX.cp 7 rfl rfl (by intro ax wx hk Kx hK;have k19 := hk.e 0 5 19 rfl rfl rfl;have hL := hk.fact 0 0 _ rfl rfl;(try dsimp only at hL);have hs := hk.fact 1 1 _ rfl rfl;(try dsimp only at hs);clear hk;go_simp;refine (HI.out _ (NAt.below HKN.out hL.2.2)).mono ?_;rintro e w' ⟨rfl,hb⟩;refine hK _ _ (fun h => by cases h) (fun _ _ => ?_) hb;apply RgX.mk) ?_
   refine RgX.cp 8 rfl rfl (by intro ax wx hk Kx hK;have k14 := hk.e 0 0 14 rfl rfl rfl;have k20 := hk.e 0 6 20 rfl rfl rfl;have hL := hk.fact 0 0 _ rfl rfl;(try dsimp only at hL);have hs := hk.fact 1 1 _ rfl rfl;(try dsimp only at hs);clear hk;go_simp;refine (refOr_any F G _).mono ?_;rintro e w' ⟨rfl,hb⟩;refine hK _ _ (fun h => by cases h) (fun _ _ => ?_) hb;apply RgX.mk) ?_
   refine RgX.build_cons (m := 9) (r := (⟨fun _ _ w5 => AtG w5 (w.heap.size + 1 + 1) 38 (cellsOf fun x => F x || G x),none,none⟩ : RgX.Rl)) (RgX.one_plain rfl (by intro ax wx hk Kx hK;have k3 := hk.base 3 _ rfl rfl;have k21 := hk.e 0 7 21 rfl rfl rfl;have hL := hk.fact 0 0 _ rfl rfl;(try dsimp only at hL);have hs := hk.fact 1 0 _ rfl rfl;(try dsimp only at hs);clear hk;(have d0 : wx.cell? ⟨w.heap.size + 1 + 1,0,none⟩ = some (.int .u64 ((wd (F) 0 : Nat) : Int)) := hs.cell 0 _ rfl;have d1 : wx.cell? ⟨w.heap.size + 1 + 1,1,none⟩ = some (.int .u64 ((wd (F) 1 : Nat) : Int)) := hs.cell 1 _ rfl;have d2 : wx.cell? ⟨w.heap.size + 1 + 1,2,none⟩ = some (.int .u64 ((wd (F) 2 : Nat) : Int)) := hs.cell 2 _ rfl;have d3 : wx.cell? ⟨w.heap.size + 1 + 1,3,none⟩ = some (.int .u64 ((wd (F) 3 : Nat) : Int)) := hs.cell 3 _ rfl;have f0 := hs.frozen 0;have f1 := hs.frozen 1;have f2 := hs.frozen 2;have f3 := hs.frozen 3;unfold setOf at k21;go_simp;exact hK undef _ (fun _ => rfl) (fun u hu => putS_at hs _) ⟨_,rfl⟩))) ?_ rfl (RgX.keep_r (fun _ _ _ _ h hb => h.below hb) (fun _ _ => ⟨fun h _ _ _ => absurd rfl h,trivial⟩)) (fun _ h => by cases h)
   refine RgX.build_end fun wx hj => ?_
   have hL := hj 0 _ rfl rfl
   clear hj
   iterate 8 refine RgX.fin_eq rfl ?_
   refine RgX.fin_none rfl fun s8 => ?_
   refine RgX.fin_nil ?_
   simp only [List.set_cons_zero,List.set_cons_succ]
   have hs5 := s8 rfl undef rfl
   rw [HE2.out] at hs5
   have HL := Lib.hid hL;have HS5 := Lib.hid hs5
   clear s8 hL hs5
   go_wp2_with fail
   exact ⟨⟨k + 1,by omega,by go_num,HL.out.1,HL.out.2.1,HS5.out,HL.out.2.2⟩,by simp [intOf];omega⟩
  ·obtain rfl : k = ps.length := by omega
   rw [List.take_length] at HST
   obtain ⟨F,hF⟩ : ∃ F : Nat → Bool,F = fun x => f x || anyL ps x := ⟨_,rfl⟩
   rw [← hF] at HST
   have HF := Lib.hid hF
   clear hF
   have z0 : wr.cell? ⟨w.heap.size + 1 + 1,0,none⟩ = some (.int .u64 ((wd (F) 0 : Nat) : Int)) := HST.out.cell 0 _ rfl
   have z1 : wr.cell? ⟨w.heap.size + 1 + 1,1,none⟩ = some (.int .u64 ((wd (F) 1 : Nat) : Int)) := HST.out.cell 1 _ rfl
   have z2 : wr.cell? ⟨w.heap.size + 1 + 1,2,none⟩ = some (.int .u64 ((wd (F) 2 : Nat) : Int)) := HST.out.cell 2 _ rfl
   have z3 : wr.cell? ⟨w.heap.size + 1 + 1,3,none⟩ = some (.int .u64 ((wd (F) 3 : Nat) : Int)) := HST.out.cell 3 _ rfl
   have d0 := (HRS.out).cell 0 _ rfl;have d1 := (HRS.out).cell 1 _ rfl;have d2 := (HRS.out).cell 2 _ rfl;have d3 := (HRS.out).cell 3 _ rfl
   have f0 := (HRS.out).frozen 0;have f1 := (HRS.out).frozen 1;have f2 := (HRS.out).frozen 2;have f3 := (HRS.out).frozen 3
   go_wp2_with fail
   refine bodyPost_ret (v := setOf F) (by simp [results,Tryz.results32,go_sem,d0,d1,d2,d3];try rfl) rfl ⟨by rw [HF.out];rfl,?_⟩
   exact putS_below HB.out (by omega) F
theorem rAny_any (p : Pat) : Wf p → rAnyC p := by
 refine Pat.ind (M := fun p => Wf p → rAnyC p) ?_ ?_ ?_ ?_ p
 ·intro f _ w a n c h
  obtain rfl : n = 0 := by
   obtain ⟨a',c',hn⟩ := KAt.slice h
   injection hn with _ hn _
  have := rAny_node 1 f 0 0 [] (by simp) (by simp) w a c h
  rw [show (fun x => f x || anyL [] x) = anyP (.one f) from by funext x;simp [anyL,anyP]] at this
  exact this
 ·intro l ih hw w a n c h
  cases hw with | cat _ h1 h2 h3 =>
  obtain rfl : n = l.length := by
   obtain ⟨a',c',hn⟩ := KAt.slice h
   injection hn with _ hn _
   rw [trees_len] at hn;exact hn
  have := rAny_node 2 emp 0 0 l h3 (fun p hp => ih p hp (h1 p hp)) w a c h
  rw [show (fun x => emp x || anyL l x) = anyP (.cat l) from by funext x;simp [emp,anyP]] at this
  exact this
 ·intro l ih hw w a n c h
  cases hw with | alt _ h1 h2 h3 =>
  obtain rfl : n = l.length := by
   obtain ⟨a',c',hn⟩ := KAt.slice h
   injection hn with _ hn _
   rw [trees_len] at hn;exact hn
  have := rAny_node 3 emp 0 0 l h3 (fun p hp => ih p hp (h1 p hp)) w a c h
  rw [show (fun x => emp x || anyL l x) = anyP (.alt l) from by funext x;simp [emp,anyP]] at this
  exact this
 ·intro mn mx p ih hw w a n c h
  cases hw with | rep _ _ _ h1 h2 h3 h4 =>
  obtain rfl : n = 1 := by
   obtain ⟨a',c',hn⟩ := KAt.slice h
   injection hn with _ hn _
  have := rAny_node 4 emp (mn : Int) (mx : Int) [p] (by simp) (fun q hq => by simp at hq;subst hq;exact ih h1) w a c h
  rw [show (fun x => emp x || anyL [p] x) = anyP (.rep mn mx p) from by funext x;simp [emp,anyL,anyP]] at this
  exact this
end Go.Proofs.YtgjcibhhffkemaaGreatDoor
namespace Go.Proofs.YtgjcibhhffkemaaGreatDoor
open Go.RowKit
theorem madeCells_one (z : Value) (n : Nat) : madeCells #[z] n = Array.replicate n z := by
 refine Array.ext (by simp [madeCells]) fun i h1 h2 => ?_
 simp [madeCells,Nat.mod_one]
theorem make_one {P : Program} (t e : TypeId) (z : Value) (bytes : Nat) (ht : P.underlying t = some (.slice e)) (hinfo : (P.info? e).map (fun i => (i.zero,i.size,i.bytes)) = some (some z,1,bytes)) (hz1 : z.cells = #[z])
  (kl kc : IntKind) (n : Nat) (hb : bytes * n ≤ 281474976710656) (h63 : n ≤ 9223372036854775807) (w : World) :
  (Instr.makeSlice t (.int kl (n : Int)) (.int kc (n : Int))).run P w = .ok (.slice (some ⟨w.heap.size,0,none⟩) n n) (w.alloc (.cells (Array.replicate n z) e)) := by
 obtain ⟨i,hi,hz,hs,hby⟩ := info_parts hinfo
 have hbb : (i.bytes : Int) * (n : Int) ≤ 281474976710656 := by
  have h : ((bytes * n : Nat) : Int) ≤ 281474976710656 := by omega
  rw [hby];rwa [Int.natCast_mul] at h
 have h := run_make (P := P) w t e i z ht hi hz kl kc n n (by omega) (Int.le_refl _) hbb (by omega)
 rw [Int.toNat_natCast,hs,Nat.mul_one,hz1,madeCells_one] at h
 exact h
end Go.Proofs.YtgjcibhhffkemaaGreatDoor
namespace Go.Proofs.YtgjcibhhffkemaaGreatDoor
open Go.RowKit Bt
def barr (f : Nat → Bool) (n : Nat) : Array Value := (Array.range n).map fun i => .bool (f i)
theorem barr_size (f : Nat → Bool) (n : Nat) : (barr f n).size = n := by unfold barr;simp
theorem barr_get (f : Nat → Bool) (n i : Nat) (h : i < n) : (barr f n)[i]? = some (.bool (f i)) := by unfold barr;simp [h]
def updB (f : Nat → Bool) (i : Nat) (v : Bool) : Nat → Bool := fun j => if j = i then v else f j
theorem barr_set (f : Nat → Bool) (n i : Nat) (v : Bool) : (barr f n).setIfInBounds i (.bool v) = barr (updB f i v) n := by
 refine Array.ext (by simp [barr_size]) fun j h1 h2 => ?_
 have hj : j < n := by rw [barr_size] at h2;exact h2
 have e2 := barr_get (updB f i v) n j hj
 rw [Array.getElem?_eq_getElem h2] at e2
 have e1 := barr_get f n j hj
 rw [Array.getElem_setIfInBounds (by rw [barr_size];exact hj)]
 rw [Array.getElem?_eq_getElem (by rw [barr_size];exact hj)] at e1
 injection e1 with e1;injection e2 with e2
 rw [e2]
 unfold updB
 by_cases h : i = j
 ·subst h;simp
 ·rw [if_neg h,if_neg (fun e => h e.symm)];exact e1
theorem barr_zero (n : Nat) : Array.replicate n (Value.bool false) = barr (fun _ => false) n := by
 refine Array.ext (by simp [barr_size]) fun j h1 h2 => ?_
 have hj : j < n := by rw [barr_size] at h2;exact h2
 have e2 := barr_get (fun _ => false) n j hj
 rw [Array.getElem?_eq_getElem h2] at e2
 injection e2 with e2
 rw [e2];simp
def BRow (w : World) (v : Value) (n : Nat) (f : Nat → Bool) : Prop := ∃ b,v = .slice (some ⟨b,0,none⟩) n n ∧ AtG w b 4 (barr f n)
theorem BRow.below {w w' : World} {v : Value} {n : Nat} {f : Nat → Bool} (h : BRow w v n f) (hb : Below w.heap.size w w') : BRow w' v n f := by
 obtain ⟨b,h1,h2⟩ := h;exact ⟨b,h1,h2.below hb⟩
theorem AtG.bool {w : World} {b n : Nat} {f : Nat → Bool} (h : AtG w b 4 (barr f n)) (i : Nat) (hi : i < n) : w.cell? ⟨b,i,none⟩ = some (.bool (f i)) := h.cell i _ (barr_get f n i hi)
theorem AtG.setB {w : World} {b n : Nat} {f : Nat → Bool} (h : AtG w b 4 (barr f n)) (i : Nat) (v : Bool) : AtG (w.setCell ⟨b,i,none⟩ (.bool v)) b 4 (barr (updB f i v) n) := by
 have := h.set i (.bool v)
 rw [← barr_set];exact this
set_option maxRecDepth 100000 in
theorem indexB_any (b n : Nat) (f : Nat → Bool) (t : Bool) (w : World) (hn : n ≤ 1000000) (h : AtG w b 4 (barr f n)) :
  Calls Tryz.prog 74 #[.slice (some ⟨b,0,none⟩) n n,.bool t] w fun e w' => w' = w ∧ ∃ r : Int,e = .returned (.int .i64 r) ∧ (0 ≤ r ↔ ∃ i,i < n ∧ f i = t) := by
 have H := Lib.hid h
 have hnI : (n : Int) ≤ 1000000 := by omega
 clear h
 go_enter Tryz.func74,Tryz.ntmps74
 go_wp2_with fail
 go_loopw [8] (fun i wr => ∃ k : Nat,k ≤ n ∧ i = .int .i64 k ∧ wr = w ∧ ∀ j,j < k → f j ≠ t) (fun i _ => n - (intOf i).toNat)
 case atStart => exact ⟨0,Nat.zero_le _,rfl,by first | rfl | trivial,fun j h => absurd h (Nat.not_lt_zero _)⟩
 case round =>
  obtain ⟨k,hk,rfl,hw,hno⟩ := hrel
  subst hw
  have HNO := Lib.hid hno;clear hno
  by_cases hlt : k < n
  ·have hc := H.out.bool k hlt
   by_cases hq : f k = t
   ·have e1 : (t == f k) = true := by rw [hq];simp
    have HQ := Lib.hid hq;clear hq
    go_wp2_with fail
    go_returns
    exact ⟨rfl,k,rfl,⟨fun _ => ⟨k,hlt,HQ.out⟩,fun _ => by omega⟩⟩
   ·have e1 : (t == f k) = false := by rw [beq_eq_false_iff_ne];exact fun e => hq e.symm
    have HQ := Lib.hid hq;clear hq
    go_wp2_with fail
    exact ⟨⟨k + 1,by omega,by go_num,by first | rfl | trivial,fun j hj => by
     rcases Nat.lt_succ_iff_lt_or_eq.1 hj with h1 | rfl
     ·exact HNO.out j h1
     ·exact HQ.out⟩,by simp [intOf];omega⟩
  ·go_wp2_with fail
   go_returns
   exact ⟨rfl,-1,rfl,⟨(fun h => by omega),fun ⟨i,hi,hf⟩ => absurd hf (HNO.out i (by omega))⟩⟩
set_option maxRecDepth 100000 in
theorem containsB_any (b n : Nat) (f : Nat → Bool) (t : Bool) (w : World) (hn : n ≤ 1000000) (h : AtG w b 4 (barr f n)) :
  Calls Tryz.prog 52 #[.slice (some ⟨b,0,none⟩) n n,.bool t] w fun e w' => w' = w ∧ ∃ r : Bool,e = .returned (.bool r) ∧ (r = true ↔ ∃ i,i < n ∧ f i = t) := by
 have HI := Lib.hid (indexB_any b n f t w hn h)
 clear h
 go_enter Tryz.func52,Tryz.ntmps52
 go_wp2_with fail
 refine (HI.out).mono ?_
 rintro e9 w9 ⟨rfl,r,rfl,hr⟩
 have HR := Lib.hid hr;clear hr
 go_wp2_with fail
 go_returns
 exact ⟨rfl,decide (0 ≤ r),rfl,by rw [decide_eq_true_iff];exact HR.out⟩
set_option maxRecDepth 100000 in
theorem equalB_any (b b' n : Nat) (f g : Nat → Bool) (w : World) (hn : n ≤ 1000000) (h : AtG w b 4 (barr f n)) (h' : AtG w b' 4 (barr g n)) :
  Calls Tryz.prog 53 #[.slice (some ⟨b,0,none⟩) n n,.slice (some ⟨b',0,none⟩) n n] w fun e w' => Below w.heap.size w w' ∧ ∃ r : Bool,e = .returned (.bool r) ∧ (r = true ↔ ∀ i,i < n → f i = g i) := by
 have H := Lib.hid h;have H' := Lib.hid h'
 have hnI : (n : Int) ≤ 1000000 := by omega
 clear h h'
 go_enter Tryz.func53,Tryz.ntmps53
 go_wp2_with fail
 go_loopw [13] (fun i wr => ∃ k : Nat,k ≤ n ∧ i = .int .i64 k ∧ Below w.heap.size w wr ∧ ∀ j,j < k → f j = g j) (fun i _ => n - (intOf i).toNat)
 case atStart => exact ⟨0,Nat.zero_le _,rfl,Below.refl _ _,fun j h => absurd h (Nat.not_lt_zero _)⟩
 case round =>
  obtain ⟨k,hk,rfl,hb,hno⟩ := hrel
  have HNO := Lib.hid hno;have HB := Lib.hid hb;clear hno hb
  by_cases hlt : k < n
  ·have HLT := Lib.hid hlt
   go_upto_region 6 with (fail)
   obtain ⟨wz,rfl⟩ : ∃ wz : World,wz = wr := ⟨_,rfl⟩
   refine Rg.wp_region_each (by kernel_rfl) (fun w' => Below w.heap.size w w') (fun w1 w2 h hb => h.trans (hb.mono h.size)) (by kernel_rfl) (by kernel_rfl) (HB.out) ?_
   show Rg.Build _ _ _ _ _ 0 [_,_,_,_,_,_,_,_,_] []
   refine Rg.cpe 1 rfl rfl (by intro ax wx hk Kx hK;have k0 := hk.base 0 _ rfl rfl;have hj := hk.j;clear hk;have c1 := ((H.out.below hj)).bool k HLT.out;have c2 := ((H'.out.below hj)).bool k HLT.out;go_simp;exact Rg.ok hK) ?_
   refine Rg.cpe 2 rfl rfl (by intro ax wx hk Kx hK;have k5 := hk.base 5 _ rfl rfl;have hj := hk.j;clear hk;have c1 := ((H.out.below hj)).bool k HLT.out;have c2 := ((H'.out.below hj)).bool k HLT.out;go_simp;exact Rg.ok hK) ?_
   refine Rg.cpe 3 rfl rfl (by intro ax wx hk Kx hK;have k16 := hk.e 0 16 rfl rfl rfl;have k17 := hk.e 1 17 rfl rfl rfl;clear hk;go_simp;exact Rg.ok hK) ?_
   refine Rg.cpe 4 rfl rfl (by intro ax wx hk Kx hK;have k18 := hk.e 2 18 rfl rfl rfl;have hj := hk.j;clear hk;have c1 := ((H.out.below hj)).bool k HLT.out;have c2 := ((H'.out.below hj)).bool k HLT.out;go_simp;exact Rg.ok hK) ?_
   refine Rg.cpe 5 rfl rfl (by intro ax wx hk Kx hK;have k1 := hk.base 1 _ rfl rfl;have hj := hk.j;clear hk;have c1 := ((H.out.below hj)).bool k HLT.out;have c2 := ((H'.out.below hj)).bool k HLT.out;go_simp;exact Rg.ok hK) ?_
   refine Rg.cpe 6 rfl rfl (by intro ax wx hk Kx hK;have k5 := hk.base 5 _ rfl rfl;have hj := hk.j;clear hk;have c1 := ((H.out.below hj)).bool k HLT.out;have c2 := ((H'.out.below hj)).bool k HLT.out;go_simp;exact Rg.ok hK) ?_
   refine Rg.cpe 7 rfl rfl (by intro ax wx hk Kx hK;have k20 := hk.e 4 20 rfl rfl rfl;have k21 := hk.e 5 21 rfl rfl rfl;clear hk;go_simp;exact Rg.ok hK) ?_
   refine Rg.cpe 8 rfl rfl (by intro ax wx hk Kx hK;have k22 := hk.e 6 22 rfl rfl rfl;have hj := hk.j;clear hk;have c1 := ((H.out.below hj)).bool k HLT.out;have c2 := ((H'.out.below hj)).bool k HLT.out;go_simp;exact Rg.ok hK) ?_
   refine Rg.cpe 9 rfl rfl (by intro ax wx hk Kx hK;have k19 := hk.e 3 19 rfl rfl rfl;have k23 := hk.e 7 23 rfl rfl rfl;clear hk;go_simp;exact Rg.ok hK) ?_
   refine Rg.build_end fun wx hj => ?_
   iterate 9 refine Rg.fin_eq rfl ?_
   refine Rg.fin_nil ?_
   simp only [List.set_cons_zero,List.set_cons_succ]
   have HJ := Lib.hid hj;clear hj
   go_wp2_with fail
   ·rename_i hx
    go_returns
    exact ⟨HJ.out,false,rfl,⟨(fun h => by cases h),fun h => by rw [h k HLT.out] at hx;simp at hx⟩⟩
   ·rename_i hx
    have hq : f k = g k := by simpa using hx
    exact ⟨⟨k + 1,by omega,by go_num,HJ.out,fun j hj => by
     rcases Nat.lt_succ_iff_lt_or_eq.1 hj with h1 | rfl
     ·exact HNO.out j h1
     ·exact hq⟩,by simp [intOf];omega⟩
  ·go_wp2_with fail
   go_returns
   exact ⟨HB.out,true,rfl,⟨fun _ j hj => HNO.out j (by omega),fun _ => rfl⟩⟩
end Go.Proofs.YtgjcibhhffkemaaGreatDoor
namespace Go.Proofs.YtgjcibhhffkemaaGreatDoor
open Go.RowKit Bt
def InS (n : Nat) (S : Nat → Bool) : Nat → Prop := fun j => j ≤ n ∧ S j = true
def byt (xs : List Int) : Nat → Nat := fun i => (xs.getD i 0).toNat
theorem it_le {R : Nat → Nat → Prop} {n : Nat} (h : ∀ j i,j ≤ n → R j i → i ≤ n) (t : Nat) : ∀ j i,j ≤ n → It R t j i → i ≤ n := by
 induction t with
 | zero => intro j i hj h;rw [It] at h;omega
 | succ t ih => intro j i hj h1;rw [It] at h1;obtain ⟨k,h2,h3⟩ := h1;exact h k i (ih j k hj h2) h3
theorem mt_le (b : Nat → Nat) (n : Nat) (p : Pat) : ∀ j i,j ≤ n → Mt b n p j i → i ≤ n := by
 refine Pat.ind (M := fun p => ∀ j i,j ≤ n → Mt b n p j i → i ≤ n) ?_ ?_ ?_ ?_ p
 ·intro f j i hj h;rw [Mt] at h;omega
 ·intro l ih j i hj h
  rw [Mt] at h
  induction l generalizing j with
  | nil => rw [MtC] at h;omega
  | cons p l ih2 =>
   rw [MtC] at h
   obtain ⟨k,h1,h2⟩ := h
   exact ih2 (fun q hq => ih q (List.mem_cons_of_mem _ hq)) k (ih p (List.mem_cons_self ..) j k hj h1) h2
 ·intro l ih j i hj h
  rw [Mt] at h
  induction l with
  | nil => rw [MtA] at h;exact h.elim
  | cons p l ih2 =>
   rw [MtA] at h
   rcases h with h | h
   ·exact ih p (List.mem_cons_self ..) j i hj h
   ·exact ih2 (fun q hq => ih q (List.mem_cons_of_mem _ hq)) h
 ·intro mn mx p ih j i hj h
  rw [Mt] at h
  obtain ⟨t,_,_,h⟩ := h
  exact it_le (fun j i hj h => ih j i hj h) t j i hj h
theorem mtC_snoc (b : Nat → Nat) (n : Nat) (l : List Pat) (k : Nat) (hk : k < l.length) (S : Nat → Prop) (i : Nat) : img (MtC b n (l.take (k + 1))) S i ↔ img (Mt b n l[k]) (img (MtC b n (l.take k)) S) i := by
 have key : ∀ (a : List Pat) (p : Pat) (S : Nat → Prop) (i : Nat),img (MtC b n (a ++ [p])) S i ↔ img (Mt b n p) (img (MtC b n a) S) i := by
  intro a p
  induction a with
  | nil =>
   intro S i
   rw [List.nil_append,mt_cat_cons]
   exact (mt_cat_nil b n _ i).trans (img_congr (fun j => (mt_cat_nil b n S j).symm) i)
  | cons q a ih =>
   intro S i
   rw [List.cons_append,mt_cat_cons,ih]
   exact img_congr (fun j => (mt_cat_cons b n q a S j).symm) i
 rw [List.take_succ_eq_append_getElem hk]
 exact key _ _ _ _
theorem mtA_snoc (b : Nat → Nat) (n : Nat) (l : List Pat) (k : Nat) (hk : k < l.length) (S : Nat → Prop) (i : Nat) : img (MtA b n (l.take (k + 1))) S i ↔ img (MtA b n (l.take k)) S i ∨ img (Mt b n l[k]) S i := by
 have key : ∀ (a : List Pat) (p : Pat),img (MtA b n (a ++ [p])) S i ↔ img (MtA b n a) S i ∨ img (Mt b n p) S i := by
  intro a p
  induction a with
  | nil =>
   rw [List.nil_append,mt_alt_cons]
   have hn : ¬ img (MtA b n []) S i := fun ⟨j,_,h⟩ => by rw [MtA] at h;exact h
   exact ⟨fun h => h.elim .inr (fun h => absurd h hn),fun h => h.elim (fun h => absurd h hn) .inl⟩
  | cons q a ih =>
   rw [List.cons_append,mt_alt_cons,ih,mt_alt_cons,or_assoc]
 rw [List.take_succ_eq_append_getElem hk]
 exact key _ _
def EndsC (p : Pat) : Prop := ∀ (w : World) (a : Option Addr) (m c : Nat) (wv : Value) (xs : List Int) (bf : Nat) (S : Nat → Bool),NAt w p.tree (.slice a m c) → RdB w wv xs → xs.length ≤ 1000 → AtG w bf 4 (barr S (xs.length + 1)) →
 Calls Tryz.prog 34 #[nodeV p.tree (.slice a m c),wv,.slice (some ⟨bf,0,none⟩) (xs.length + 1) (xs.length + 1)] w fun e w' => Below w.heap.size w w' ∧ ∃ b g,e = .returned (.slice (some ⟨b,0,none⟩) (xs.length + 1) (xs.length + 1)) ∧ AtG w' b 4 (barr g (xs.length + 1)) ∧ (b = bf ∨ w.heap.size ≤ b) ∧ ∀ i,i ≤ xs.length → (g i = true ↔ img (Mt (byt xs) xs.length p) (InS xs.length S) i)
theorem rdB_slice {w : World} {v : Value} {xs : List Int} (h : RdB w v xs) : ∃ A c,v = .slice A xs.length c := by
 rcases h with ⟨rfl,a,c,rfl⟩ | ⟨b,off,cap,rfl,_⟩
 ·exact ⟨a,c,rfl⟩
 ·exact ⟨_,cap,rfl⟩
theorem rdB_at {w : World} {A : Option Addr} {n c : Nat} {xs : List Int} (h : RdB w (.slice A n c) xs) (j : Nat) (hj : j < xs.length) : ∃ b off,A = some ⟨b,off,none⟩ ∧ xs.length ≤ c ∧ w.cell? ⟨b,off + j,none⟩ = some (.int .u8 (xs.getD j 0)) ∧ 0 ≤ xs.getD j 0 ∧ xs.getD j 0 ≤ 255 := by
 rcases h with ⟨rfl,_⟩ | ⟨b,off,cap,h1,h2,h3,h4,h5⟩
 ·simp at hj
 ·injection h1 with e1 e2 e3
  subst e1;subst e3
  exact ⟨b,off,rfl,h2,h4 j hj,h5 j⟩
theorem infoBool : (Tryz.prog.info? 4).map (fun i => (i.zero,i.size,i.bytes)) = some (some (.bool false),1,1) := by kernel_rfl
set_option maxRecDepth 100000 in
set_option maxHeartbeats 1600000 in
theorem ends_one (f : Nat → Bool) : EndsC (.one f) := by
 intro w a m c wv xs bf S hn hx hl hfa
 obtain ⟨A,wc,rfl⟩ := rdB_slice hx
 have HX := Lib.hid hx;have HF := Lib.hid hfa
 have hnI : (xs.length : Int) ≤ 1000 := by omega
 have hmk := make_one (P := Tryz.prog) 84 4 (.bool false) 1 Tryz.underlying84 infoBool rfl .i64 .i64 (xs.length + 1) (by omega) (by omega)
 rw [show ((xs.length + 1 : Nat) : Int) = (xs.length : Int) + 1 from by omega,barr_zero] at hmk
 obtain ⟨w0,hw0⟩ : ∃ w0 : World,w0 = (w.alloc (.cells (nodeC 1 f 0 0 (.slice a m c)) 41)).alloc (.cells (barr (fun _ => false) (xs.length + 1)) 4) := ⟨_,rfl⟩
 have HA : Hid (AtG w0 w.heap.size 41 (nodeC 1 f 0 0 (.slice a m c))) := Lib.hid (by rw [hw0];exact (AtG.new _ _ _).alloc _)
 have HO : Hid (AtG w0 (w.heap.size + 1) 4 (barr (fun _ => false) (xs.length + 1))) := Lib.hid (by
  rw [hw0]
  have := AtG.new (w.alloc (.cells (nodeC 1 f 0 0 (.slice a m c)) 41)) 4 (barr (fun _ => false) (xs.length + 1))
  simpa using this)
 have HB0 : Hid (Below w.heap.size w w0) := Lib.hid (by rw [hw0];go_grown)
 have hw0' : (w.alloc (.cells #[.int .i64 1,.int .u64 ((wd f 0 : Nat) : Int),.int .u64 ((wd f 1 : Nat) : Int),.int .u64 ((wd f 2 : Nat) : Int),.int .u64 ((wd f 3 : Nat) : Int),.int .i64 0,.int .i64 0,.slice a m c] 41)).alloc (.cells (barr (fun _ => false) (xs.length + 1)) 4) = w0 := hw0.symm
 have m0 : w0.cell? ⟨w.heap.size,0,none⟩ = some (.int .i64 1) := HA.out.cell 0 _ rfl
 have HLF := Lib.hid hfa.lt
 clear hn hx hfa hw0
 show Calls Tryz.prog 34 #[.agg #[.int .i64 1,.int .u64 ((wd f 0 : Nat) : Int),.int .u64 ((wd f 1 : Nat) : Int),.int .u64 ((wd f 2 : Nat) : Int),.int .u64 ((wd f 3 : Nat) : Int),.int .i64 0,.int .i64 0,.slice a m c],_,_] w _
 go_enter Tryz.func34,Tryz.ntmps34
 go_wp2_with fail
 go_loopw [31] (fun i wr => ∃ k : Nat,k ≤ xs.length ∧ i = .int .i64 k ∧ AtG wr w.heap.size 41 (nodeC 1 f 0 0 (.slice a m c)) ∧ Below w.heap.size w wr ∧ ∃ g,AtG wr (w.heap.size + 1) 4 (barr g (xs.length + 1)) ∧ g 0 = false ∧ (∀ j,j < k → g (j + 1) = (S j && f (byt xs j))) ∧ ∀ j,k ≤ j → g (j + 1) = false) (fun i _ => xs.length - (intOf i).toNat)
 case atStart => exact ⟨0,Nat.zero_le _,rfl,HA.out,HB0.out,_,HO.out,rfl,fun j h => absurd h (Nat.not_lt_zero _),fun _ _ => rfl⟩
 case round =>
  clear hw0' m0 HA HO HB0 hmk
  obtain ⟨k,hk,rfl,ha,hb,g,hg,hg0,hg1,hg2⟩ := hrel
  by_cases hlt : k < xs.length
  ·obtain ⟨bw,ow,rfl,hcap,hcell,hc0,hc1⟩ := rdB_at HX.out k hlt
   have hcw : wr.cell? ⟨bw,ow + k,none⟩ = some (.int .u8 (xs.getD k 0)) := (hb.cell (p := ⟨bw,ow + k,none⟩) (World.block_lt_of_cell? w _ hcell)).trans hcell
   have hcf : wr.cell? ⟨bf,k,none⟩ = some (.bool (S k)) := (HF.out.below hb).bool k (by omega)
   have HH := Lib.hid (has_any f (xs.getD k 0) wr hc0 hc1)
   have hby : byt xs k = (xs.getD k 0).toNat := rfl
   have HG1 := Lib.hid hg1;have HG2 := Lib.hid hg2;have HG0 := Lib.hid hg0;have HB := Lib.hid hb;have HA := Lib.hid ha;have HG := Lib.hid hg
   have hws := hb.size
   have hsz : w.heap.size + 1 < wr.heap.size := hg.lt
   have n1 : wr.cell? ⟨w.heap.size,1,none⟩ = some (.int .u64 ((wd f 0 : Nat) : Int)) := ha.cell 1 _ rfl
   have n2 : wr.cell? ⟨w.heap.size,2,none⟩ = some (.int .u64 ((wd f 1 : Nat) : Int)) := ha.cell 2 _ rfl
   have n3 : wr.cell? ⟨w.heap.size,3,none⟩ = some (.int .u64 ((wd f 2 : Nat) : Int)) := ha.cell 3 _ rfl
   have n4 : wr.cell? ⟨w.heap.size,4,none⟩ = some (.int .u64 ((wd f 3 : Nat) : Int)) := ha.cell 4 _ rfl
   have o1 := hg.frozen (k + 1)
   have oc := hg.bool (k + 1) (by omega)
   generalize xs.getD k 0 = x at *
   clear hg1 hg2 hg0 hb ha hg hcell
   cases hS : S k with
   | false =>
    rw [hS] at hcf
    go_wp2_with fail
    refine ⟨⟨k + 1,by omega,by go_num,HA.out.far (p := ⟨w.heap.size + 1,k + 1,none⟩) (by show w.heap.size ≠ w.heap.size + 1;omega) _,HB.out.setCell (by simp) _,updB g (k + 1) false,HG.out.setB (k + 1) false,?_,?_,?_⟩,by simp [intOf];omega⟩
    ·unfold updB;rw [if_neg (by omega)];exact HG0.out
    ·intro j hj
     unfold updB
     by_cases e : j = k
     ·subst e;rw [if_pos rfl,hS];rfl
     ·rw [if_neg (by omega)];exact HG1.out j (by omega)
    ·intro j hj
     unfold updB
     rw [if_neg (by omega)];exact HG2.out j (by omega)
   | true =>
    rw [hS] at hcf
    unfold setOf at HH
    go_wp2_with fail
    refine (HH.out).mono ?_
    rintro e9 w9 ⟨rfl,hb9⟩
    have HA9 := Lib.hid (HA.out.below hb9);have HB9 := Lib.hid (HB.out.trans (hb9.mono HB.out.size));have HG9 := Lib.hid (HG.out.below hb9)
    have o2 := HG9.out.frozen (k + 1)
    have oc2 := HG9.out.bool (k + 1) (by omega)
    clear hb9
    generalize hfx : f x.toNat = fx at *
    go_wp2_with fail
    refine ⟨⟨k + 1,by omega,by go_num,HA9.out.far (p := ⟨w.heap.size + 1,k + 1,none⟩) (by show w.heap.size ≠ w.heap.size + 1;omega) _,HB9.out.setCell (by simp) _,updB g (k + 1) fx,HG9.out.setB (k + 1) fx,?_,?_,?_⟩,by simp [intOf];omega⟩
    ·unfold updB;rw [if_neg (by omega)];exact HG0.out
    ·intro j hj
     unfold updB
     by_cases e : j = k
     ·subst e;rw [if_pos rfl,hS,hby,hfx];rfl
     ·rw [if_neg (by omega)];exact HG1.out j (by omega)
    ·intro j hj
     unfold updB
     rw [if_neg (by omega)];exact HG2.out j (by omega)
  ·obtain rfl : k = xs.length := by omega
   have HG1 := Lib.hid hg1;have HG0 := Lib.hid hg0;have HB := Lib.hid hb;have HG := Lib.hid hg
   clear hg1 hg2 hg0 hb ha hg
   go_wp2_with fail
   go_returns
   refine ⟨HB.out,w.heap.size + 1,g,rfl,HG.out,.inr (by omega),fun i hi => ?_⟩
   constructor
   ·intro h
    cases i with
    | zero => rw [HG0.out] at h;cases h
    | succ j =>
     rw [HG1.out j (by omega),Bool.and_eq_true] at h
     exact ⟨j,⟨by omega,h.1⟩,by rw [Mt];exact ⟨rfl,by omega,h.2⟩⟩
   ·rintro ⟨j,⟨hj,hSj⟩,hm⟩
    rw [Mt] at hm
    obtain ⟨rfl,hj2,hfj⟩ := hm
    rw [HG1.out j hj2,hSj,hfj];rfl
end Go.Proofs.YtgjcibhhffkemaaGreatDoor
