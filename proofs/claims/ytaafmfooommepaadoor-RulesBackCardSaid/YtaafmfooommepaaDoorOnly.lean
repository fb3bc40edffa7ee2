/- What a call leaves as it was (out of XCtMem, for other seats). -/
import Derived.Test.YtaafmfooommepaaDoorApp
set_option linter.unusedVariables false
set_option linter.unusedSimpArgs false
namespace Go.Proofs.YtaafmfooommepaaDoor
open Go.RowKit
/-- what was there stays as it was, but for some blocks -/
structure Only (S : Nat → Prop) (w w' : World) : Prop where
  os : w'.os = w.os
  tape : w'.tape = w.tape
  output : w'.output = w.output
  size : w.heap.size ≤ w'.heap.size
  block : ∀ k, k < w.heap.size → ¬ S k → w'.heap[k]? = w.heap[k]?
namespace Only
variable {S T : Nat → Prop} {w w1 w2 : World}
theorem refl (w : World) : Only S w w := ⟨rfl, rfl, rfl, Nat.le_refl _, fun _ _ _ => rfl⟩
theorem of_below (h : Below w.heap.size w w1) : Only S w w1 := ⟨h.os, h.tape, h.output, h.size, fun k hk _ => h.block k hk⟩
theorem trans (h : Only S w w1) (h' : Only T w1 w2) (hT : ∀ k, T k → S k ∨ w.heap.size ≤ k) : Only S w w2 :=
  ⟨h'.os.trans h.os, h'.tape.trans h.tape, h'.output.trans h.output, Nat.le_trans h.size h'.size, fun k hk hS =>
    (h'.block k (Nat.lt_of_lt_of_le hk h.size) (fun ht => (hT k ht).elim hS (fun g => by omega))).trans (h.block k hk hS)⟩
theorem mono (h : Only T w w1) (hT : ∀ k, T k → S k ∨ w.heap.size ≤ k) : Only S w w1 := (refl w).trans h hT
theorem below {B : Nat} (h : Only S w w1) (hB : B ≤ w.heap.size) (hS : ∀ k, S k → B ≤ k) : Below B w w1 :=
  ⟨h.os, h.tape, h.output, h.size, fun k hk => h.block k (by omega) (fun hs => by have := hS k hs; omega)⟩
theorem of_grown {r : Option Nat} (h : w.grownBy w1 r) (hr : ∀ k, r = some k → S k) : Only S w w1 :=
  ⟨h.os, h.tape, h.output, h.size, fun k hk hS => h.block k hk (fun e => hS (hr k e.symm))⟩
theorem set (w : World) (g i : Nat) (v : Value) (hg : S g) : Only S w (w.setCell ⟨g, i, none⟩ v) :=
  ⟨rfl, rfl, rfl, by simp, fun k _ hS => Below.heap_setCell w _ v k (fun e => hS (by rw [e]; exact hg))⟩
theorem drew (h : Only S w w1) : Only S w w1.drew := ⟨h.os, h.tape, h.output, h.size, h.block⟩
end Only
theorem AtG.only {S : Nat → Prop} {w w1 : World} {g T : Nat} {cs : Array Value} (h : AtG w g T cs) (ho : Only S w w1) (hS : ¬ S g) : AtG w1 g T cs := (ho.block g h.lt hS).trans h
theorem own_only {S : Nat → Prop} {w w1 : World} {base n e size : Nat} {v : Value} {xs : List Value} (h : w.ownsRow base e size v n xs) (ho : Only S w w1) (hS : ∀ k, v.ownBlock = some k → ¬ S k) : w1.ownsRow base e size v n xs := by
  refine ⟨h.1, ?_⟩
  rcases h.2 with h2 | ⟨g, cap, cur, rfl, hb, hh, rest⟩
  · exact .inl h2
  · exact .inr ⟨g, cap, cur, rfl, hb, (ho.block g (Array.getElem?_eq_some_iff.1 hh).1 (hS g rfl)).trans hh, rest⟩
/-- an owned row's block is of its type -/
theorem own_type {w : World} {base n e size : Nat} {v : Value} {xs : List Value} (h : w.ownsRow base e size v n xs) {k : Nat} (hk : v.ownBlock = some k) : ∃ cur, w.heap[k]? = some (.cells cur e (0, 0)) := by
  rcases h.2 with ⟨rfl, _⟩ | ⟨g, cap, cur, rfl, hb, hh, _⟩
  · cases hk
  · cases hk; exact ⟨cur, hh⟩
theorem own_ne {w : World} {base n e size g T : Nat} {v : Value} {xs : List Value} {cs : Array Value} (h : w.ownsRow base e size v n xs) (ha : AtG w g T cs) (hT : T ≠ e) : v.ownBlock ≠ some g := by
  intro e1
  obtain ⟨cur, hc⟩ := own_type h e1
  unfold AtG at ha
  rw [ha] at hc
  injection hc with hc
  injection hc with _ e2 _
  exact hT e2
theorem AtG.ne {w : World} {g g' T T' : Nat} {cs cs' : Array Value} (h : AtG w g T cs) (h' : AtG w g' T' cs') (hT : T ≠ T') : g ≠ g' := by
  rintro rfl
  unfold AtG at h h'
  rw [h] at h'
  injection h' with h'
  injection h' with _ e _
  exact hT e
/-- a row that stayed where it was, or is new, stands while another block is written -/
theorem own_setFar {w : World} {base n e size g N : Nat} {v : Value} {xs : List Value} {r : Option Nat} (h : w.ownsRow base e size v n xs) (hv : v.ownBlock = r ∨ ∃ b, v.ownBlock = some b ∧ N ≤ b) (hr : r ≠ some g) (hg : g < N) (i : Nat) (u : Value) : (w.setCell ⟨g, i, none⟩ u).ownsRow base e size v n xs :=
  own_only h (Only.set (S := fun q => q = g) _ _ _ _ rfl) (fun q hq e => by
    subst e
    rcases hv with h2 | ⟨b, h2, h3⟩
    · exact hr (h2.symm.trans hq)
    · rw [h2] at hq; cases hq; omega)
end Go.Proofs.YtaafmfooommepaaDoor
