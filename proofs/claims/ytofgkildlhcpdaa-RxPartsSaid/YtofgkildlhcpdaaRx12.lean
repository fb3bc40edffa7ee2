/- The program's reader of patterns: read, with what it recovers from. -/
import Derived.Test.YtofgkildlhcpdaaRx11
import Derived.Defers
import Derived.Recover
import Derived.Laws.Pointers
set_option linter.unusedVariables false
set_option linter.unusedSimpArgs false
namespace Go.Proofs.Ytofgkildlhcpdaa
open Go.RowKit Bt
/-- the spot as an error -/
def spotV (b : Nat) : Value := .iface 79 (.pointer (some ⟨b, 0, none⟩))
set_option maxRecDepth 100000 in
set_option maxHeartbeats 1600000 in
theorem catchX (np ne b : Nat) (older : List PanicEntry) (w : World) (hn : AtG w np 29 nodeZ) (he : AtG w ne 59 #[.nilIface]) (hne : np ≠ ne) :
    CallsD Try.prog 59 #[.pointer (some ⟨np, 0, none⟩), .pointer (some ⟨ne, 0, none⟩)] (.panicking ({ v := .iface 79 (.pointer (some ⟨b, 0, none⟩)), recovered := false } :: older)) w fun e u' w' =>
      e = .returned (.tuple #[]) ∧ u' = .panicking ({ v := .iface 79 (.pointer (some ⟨b, 0, none⟩)), recovered := true } :: older) ∧ w' = (putZ w np).setCell ⟨ne, 0, none⟩ (spotV b) := by
  have d0 : w.cell? ⟨np, 0, none⟩ = some (.int .i64 0) := hn.cell 0 _ rfl
  have d1 : w.cell? ⟨np, 1, none⟩ = some (.int .u64 0) := hn.cell 1 _ rfl
  have d2 : w.cell? ⟨np, 2, none⟩ = some (.int .u64 0) := hn.cell 2 _ rfl
  have d3 : w.cell? ⟨np, 3, none⟩ = some (.int .u64 0) := hn.cell 3 _ rfl
  have d4 : w.cell? ⟨np, 4, none⟩ = some (.int .u64 0) := hn.cell 4 _ rfl
  have d5 : w.cell? ⟨np, 5, none⟩ = some (.int .i64 0) := hn.cell 5 _ rfl
  have d6 : w.cell? ⟨np, 6, none⟩ = some (.int .i64 0) := hn.cell 6 _ rfl
  have d7 : w.cell? ⟨np, 7, none⟩ = some (.slice none 0 0) := hn.cell 7 _ rfl
  have f0 := hn.frozen 0; have f1 := hn.frozen 1; have f2 := hn.frozen 2; have f3 := hn.frozen 3
  have f4 := hn.frozen 4; have f5 := hn.frozen 5; have f6 := hn.frozen 6; have f7 := hn.frozen 7
  have e0 : w.cell? ⟨ne, 0, none⟩ = some .nilIface := he.cell 0 _ rfl
  have g0 := he.frozen 0
  have hne2 : ne ≠ np := fun h => hne h.symm
  have hta : (Instr.typeAssert (.iface 79 (.pointer (some ⟨b, 0, none⟩))) 20 79 true).run Try.prog w = .ok (.tuple #[.pointer (some ⟨b, 0, none⟩), .bool true]) w := by rfl
  clear hn he
  refine callsD_of_wpS Try.func59 rfl fun c₀ cs hu => ?_
  apply wpS_seq
  apply wpS_region
  simp [wpOpsS, go_sem, recoverD, hu, Try.ntmps59, Exit.thenS, hta]
  apply wpS_seq
  apply wpS_region
  simp [wpOpsS, go_sem, Exit.thenS]
  refine wpS_cond (t := true) (by simp [Act.eval, Array.replicate]) ?_
  simp only [if_true]
  apply wpS_region
  simp [wpOpsS, go_sem, d0, d1, d2, d3, d4, d5, d6, d7, f0, f1, f2, f3, f4, f5, f6, f7, e0, g0, hne, hne2, bodyPostS, results, Try.results59]
  rfl
set_option maxRecDepth 100000 in
theorem idleX (np ne : Nat) (w : World) :
    CallsD Try.prog 59 #[.pointer (some ⟨np, 0, none⟩), .pointer (some ⟨ne, 0, none⟩)] .returning w fun e u' w' => e = .returned (.tuple #[]) ∧ u' = .returning ∧ w' = w := by
  have hta : (Instr.typeAssert .nilIface 20 79 true).run Try.prog w = .ok (.tuple #[.pointer none, .bool false]) w := by rfl
  refine callsD_of_wpS Try.func59 rfl fun c₀ cs hu => ?_
  apply wpS_seq
  apply wpS_region
  simp [wpOpsS, go_sem, recoverD, hu, Try.ntmps59, Exit.thenS, hta]
  apply wpS_seq
  apply wpS_region
  simp [wpOpsS, go_sem, Exit.thenS]
  refine wpS_cond (t := false) (by simp [Act.eval, Array.replicate]) ?_
  simp only [Bool.false_eq_true, if_false]
  refine wpS_of_wp (wp_skip ?_)
  cases c₀
  simp_all [bodyPostS, results, Try.results59]
/-- what read leaves -/
def ReadPost (g : Nat) (s : ByteArray) (w : World) (e : Ending) (w' : World) : Prop :=
  Only (fun k => k = g) w w' ∧ ∃ r, P s .pat 0 0 r ∧ match r with
    | .ok t q => ∃ kv, e = .returned (.tuple #[nodeV t kv, .nilIface]) ∧ KAt (fun b => w.heap.size ≤ b) w' t kv
    | .no c x => ∃ b, e = .returned (.tuple #[zeroN, spotV b]) ∧ AtG w' b 82 #[.int .i64 (x : Int), .int .i64 c]
set_option maxRecDepth 100000 in
set_option maxHeartbeats 1600000 in
theorem readX (g : Nat) (s : ByteArray) (w : World) (h : AtG w g 85 (rxr s 0 0)) (hs : s.size ≤ 900) :
    Calls Try.prog 47 #[.pointer (some ⟨g, 0, none⟩)] w (ReadPost g s w) := by
  have hmf : ∀ (fn : Fn) (first cap : Array Value) (w : World), (Instr.makeFunc fn first cap).run Try.prog w = .ok (.func fn first cap) w := fun _ _ _ _ => rfl
  have HG := Lib.hid (show ¬ w.heap.size = g ∧ ¬ w.heap.size + 1 = g by have := h.lt; omega)
  have HGL := Lib.hid h.lt
  obtain ⟨W, hW⟩ : ∃ W : World, W = (w.alloc (.cells nodeZ 29)).alloc (.cells #[.nilIface] 59) := ⟨_, rfl⟩
  have hW' : (w.alloc (.cells #[.int .i64 0, .int .u64 0, .int .u64 0, .int .u64 0, .int .u64 0, .int .i64 0, .int .i64 0, .slice none 0 0] 29)).alloc (.cells #[.nilIface] 59) = W := hW.symm
  have HA0 := Lib.hid (show AtG W g 85 (rxr s 0 0) by rw [hW]; exact (h.alloc _).alloc _)
  have HZ0 := Lib.hid (show AtG W w.heap.size 29 nodeZ by rw [hW]; exact (AtG.new _ _ _).alloc _)
  have HE0 := Lib.hid (show AtG W (w.heap.size + 1) 59 #[.nilIface] by
    rw [hW]
    have := AtG.new (w.alloc (.cells nodeZ 29)) 59 #[.nilIface]
    simpa using this)
  have HO0 := Lib.hid (show Only (fun k => k = g) w W by rw [hW]; exact ((Only.refl (S := fun k => k = g) w).al _).al _)
  have HC := Lib.hid (patCx s hs (s.size + 1) 0 0 (Nat.zero_le _) (by omega) (by omega) g W HA0.out)
  have HSZ := Lib.hid (show W.heap.size = w.heap.size + 2 by rw [hW]; simp)
  clear hW h
  go_enter_defers Try.func47, Try.ntmps47
  go_wp2_with fail
  refine (HC.out).mono ?_
  rintro e9 w2 ⟨r, hPr, ho, hr⟩
  have HPS := Lib.hid hPr
  have HO2 := Lib.hid (HO0.out.tr ho); have HZ2 := Lib.hid (HZ0.out.only ho HG.out.1); have HE2 := Lib.hid (HE0.out.only ho HG.out.2)
  clear HC hPr ho HA0 HZ0 HO0 HE0
  cases r with
  | no c x =>
    obtain ⟨b, rfl, hx⟩ := hr
    have HX := Lib.hid hx
    clear hx
    refine leaves_cons (f := 59) (args := #[.pointer (some ⟨w.heap.size, 0, none⟩), .pointer (some ⟨w.heap.size + 1, 0, none⟩)]) (by simp) (by simp [go_sem]) ?_
    refine (catchX w.heap.size (w.heap.size + 1) b [] w2 HZ2.out HE2.out (by omega)).mono ?_
    rintro e u' w3 ⟨rfl, rfl, hw3⟩
    have HZ3 : AtG w3 w.heap.size 29 nodeZ := by rw [hw3]; exact (putZ_at HZ2.out).far (p := ⟨w.heap.size + 1, 0, none⟩) (by show w.heap.size ≠ w.heap.size + 1; omega) _
    have HE3 : AtG w3 (w.heap.size + 1) 59 #[spotV b] := by
      rw [hw3, putZ_eq]
      have := (putN_far HE2.out (show w.heap.size + 1 ≠ w.heap.size by omega) 0 emp 0 0 (.slice none 0 0)).set 0 (spotV b)
      exact this
    have HO3 : Only (fun k => k = g) w w3 := by
      rw [hw3, putZ_eq]
      exact (HO2.out.pN _ (.inr (Nat.le_refl _)) _ _ _ _ _).st _ _ _ (.inr (by omega))
    have HX3 : AtG w3 b 82 #[.int .i64 (x : Int), .int .i64 c] := by
      have hb1 : b ≠ w.heap.size := fun e => by subst e; have := HX.out.ne HZ2.out (by decide); exact this rfl
      have hb2 : b ≠ w.heap.size + 1 := fun e => by subst e; have := HX.out.ne HE2.out (by decide); exact this rfl
      rw [hw3, putZ_eq]
      exact (putN_far HX.out hb1 0 emp 0 0 (.slice none 0 0)).far (p := ⟨w.heap.size + 1, 0, none⟩) hb2 _
    have d0 : w3.cell? ⟨w.heap.size, 0, none⟩ = some (.int .i64 0) := HZ3.cell 0 _ rfl
    have d1 : w3.cell? ⟨w.heap.size, 1, none⟩ = some (.int .u64 0) := HZ3.cell 1 _ rfl
    have d2 : w3.cell? ⟨w.heap.size, 2, none⟩ = some (.int .u64 0) := HZ3.cell 2 _ rfl
    have d3 : w3.cell? ⟨w.heap.size, 3, none⟩ = some (.int .u64 0) := HZ3.cell 3 _ rfl
    have d4 : w3.cell? ⟨w.heap.size, 4, none⟩ = some (.int .u64 0) := HZ3.cell 4 _ rfl
    have d5 : w3.cell? ⟨w.heap.size, 5, none⟩ = some (.int .i64 0) := HZ3.cell 5 _ rfl
    have d6 : w3.cell? ⟨w.heap.size, 6, none⟩ = some (.int .i64 0) := HZ3.cell 6 _ rfl
    have d7 : w3.cell? ⟨w.heap.size, 7, none⟩ = some (.slice none 0 0) := HZ3.cell 7 _ rfl
    have e0 : w3.cell? ⟨w.heap.size + 1, 0, none⟩ = some (spotV b) := HE3.cell 0 _ rfl
    clear hw3
    have hfin : ReadPost g s w (.returned (.tuple #[zeroN, spotV b])) w3 := ⟨HO3, _, HPS.out, b, rfl, HX3⟩
    unfold zeroN at hfin
    simp [Leaves, settle, results, Try.results47, go_sem, d0, d1, d2, d3, d4, d5, d6, d7, e0]
    exact hfin
  | ok t q =>
    obtain ⟨kv, rfl, hk, ha⟩ := hr
    obtain ⟨op, f, mn, mx, kids⟩ := t
    obtain ⟨ka, kc, rfl⟩ := KAt.slice hk
    have HK2 := Lib.hid hk
    clear ha hk
    have d0 : w2.cell? ⟨w.heap.size, 0, none⟩ = some (.int .i64 0) := (HZ2.out).cell 0 _ rfl
    have d1 : w2.cell? ⟨w.heap.size, 1, none⟩ = some (.int .u64 0) := (HZ2.out).cell 1 _ rfl
    have d2 : w2.cell? ⟨w.heap.size, 2, none⟩ = some (.int .u64 0) := (HZ2.out).cell 2 _ rfl
    have d3 : w2.cell? ⟨w.heap.size, 3, none⟩ = some (.int .u64 0) := (HZ2.out).cell 3 _ rfl
    have d4 : w2.cell? ⟨w.heap.size, 4, none⟩ = some (.int .u64 0) := (HZ2.out).cell 4 _ rfl
    have d5 : w2.cell? ⟨w.heap.size, 5, none⟩ = some (.int .i64 0) := (HZ2.out).cell 5 _ rfl
    have d6 : w2.cell? ⟨w.heap.size, 6, none⟩ = some (.int .i64 0) := (HZ2.out).cell 6 _ rfl
    have d7 : w2.cell? ⟨w.heap.size, 7, none⟩ = some (.slice none 0 0) := (HZ2.out).cell 7 _ rfl
    have f0 := (HZ2.out).frozen 0; have f1 := (HZ2.out).frozen 1; have f2 := (HZ2.out).frozen 2; have f3 := (HZ2.out).frozen 3
    have f4 := (HZ2.out).frozen 4; have f5 := (HZ2.out).frozen 5; have f6 := (HZ2.out).frozen 6; have f7 := (HZ2.out).frozen 7
    have e0 : w2.cell? ⟨w.heap.size + 1, 0, none⟩ = some .nilIface := HE2.out.cell 0 _ rfl
    have g0 := HE2.out.frozen 0
    unfold nodeV
    dsimp only
    go_wp2_with fail
    refine leaves_cons (f := 59) (args := #[.pointer (some ⟨w.heap.size, 0, none⟩), .pointer (some ⟨w.heap.size + 1, 0, none⟩)]) (by simp) (by simp [go_sem]) ?_
    refine (idleX w.heap.size (w.heap.size + 1) _).mono ?_
    rintro e u' w3 ⟨rfl, rfl, hw3⟩
    have hw3' : w3 = (putN w2 w.heap.size op f mn mx (.slice ka kids.length kc)).setCell ⟨w.heap.size + 1, 0, none⟩ .nilIface := hw3
    have HZ3 : AtG w3 w.heap.size 29 (nodeC op f mn mx (.slice ka kids.length kc)) := by rw [hw3']; exact (putN_at HZ2.out op f mn mx _).far (p := ⟨w.heap.size + 1, 0, none⟩) (by show w.heap.size ≠ w.heap.size + 1; omega) _
    have HE3 : AtG w3 (w.heap.size + 1) 59 #[.nilIface] := by
      rw [hw3']
      exact (putN_far HE2.out (show w.heap.size + 1 ≠ w.heap.size by omega) op f mn mx _).set 0 .nilIface
    have HO3 : Only (fun k => k = g) w w3 := by
      rw [hw3']
      exact (HO2.out.pN _ (.inr (Nat.le_refl _)) _ _ _ _ _).st _ _ _ (.inr (by omega))
    have HK3 : KAt (fun b => w.heap.size ≤ b) w3 (.node op f mn mx kids) (.slice ka kids.length kc) := by
      have hsz := HSZ.out
      have h1 : KAt (Iv W.heap.size w2.heap.size) (putN w2 w.heap.size op f mn mx (.slice ka kids.length kc)) (.node op f mn mx kids) (.slice ka kids.length kc) := KAt.keep (fun b hb => putN_block _ _ _ _ _ _ _ b (by have := hb.1; omega) hb.2) (fun b hb => hb) _ _ HK2.out
      rw [hw3']
      refine KAt.mono (KAt.only (S := fun k => k = w.heap.size + 1) h1 (Only.set (S := fun k => k = w.heap.size + 1) _ (w.heap.size + 1) 0 .nilIface rfl) (fun b hb => ⟨by rw [putN_size]; exact hb.2, fun e => by have := hb.1; have e2 : b = w.heap.size + 1 := e; omega⟩)) (fun b hb => by have := hb.1; omega)
    have d0 : w3.cell? ⟨w.heap.size, 0, none⟩ = some (.int .i64 op) := HZ3.cell 0 _ rfl
    have d1 : w3.cell? ⟨w.heap.size, 1, none⟩ = some (.int .u64 ((wd f 0 : Nat) : Int)) := HZ3.cell 1 _ rfl
    have d2 : w3.cell? ⟨w.heap.size, 2, none⟩ = some (.int .u64 ((wd f 1 : Nat) : Int)) := HZ3.cell 2 _ rfl
    have d3 : w3.cell? ⟨w.heap.size, 3, none⟩ = some (.int .u64 ((wd f 2 : Nat) : Int)) := HZ3.cell 3 _ rfl
    have d4 : w3.cell? ⟨w.heap.size, 4, none⟩ = some (.int .u64 ((wd f 3 : Nat) : Int)) := HZ3.cell 4 _ rfl
    have d5 : w3.cell? ⟨w.heap.size, 5, none⟩ = some (.int .i64 mn) := HZ3.cell 5 _ rfl
    have d6 : w3.cell? ⟨w.heap.size, 6, none⟩ = some (.int .i64 mx) := HZ3.cell 6 _ rfl
    have d7 : w3.cell? ⟨w.heap.size, 7, none⟩ = some (.slice ka kids.length kc) := HZ3.cell 7 _ rfl
    have e0 : w3.cell? ⟨w.heap.size + 1, 0, none⟩ = some .nilIface := HE3.cell 0 _ rfl
    have hfin : ReadPost g s w (.returned (.tuple #[nodeV (.node op f mn mx kids) (.slice ka kids.length kc), .nilIface])) w3 := ⟨HO3, _, HPS.out, _, rfl, HK3⟩
    unfold nodeV at hfin
    dsimp only at hfin
    clear hw3 hw3'
    simp [Leaves, settle, results, Try.results47, go_sem, d0, d1, d2, d3, d4, d5, d6, d7, e0]
    exact hfin
end Go.Proofs.Ytofgkildlhcpdaa
