/- The walk of ClassesApart, all cases. -/
import Derived.Test.YtklpjlcphikfaaaClassApart
import Derived.Test.YtklpjlcphikfaaaOpenSets
import Derived.Test.YtklpjlcphikfaaaOpenSet
set_option linter.unusedVariables false
set_option linter.unusedSimpArgs false
namespace Go.Proofs.Ytklpjlcphikfaaa
open Go.RowKit Bt Go.ChangeShapes Go.WideShapes
set_option maxRecDepth 100000 in
set_option maxHeartbeats 4000000 in
theorem classesApart_out (a : Option Addr) (cap n : Nat) (g : Nat → Bool) (x y : Int) (w : World) (hl : 40 < n) :
    Calls Try.prog 5 #[.slice a n cap, setOf g, .int .u8 x, .int .u8 y] w fun e w' => e = .returned (.bool true) ∧ Below w.heap.size w w' := by
  have hlI : (40 : Int) < n := by omega
  clear hl
  unfold setOf
  go_enter Try.func5, Try.ntmps5
  go_wp2_with fail
  refine (up05_any _).mono ?_; rintro e9 w1 ⟨rfl, hb1⟩
  have HB1 := Lib.hid (((Below.refl _ _).alloc (Nat.le_refl _) (.cells (cellsOf g) 33)).trans (hb1.mono (by simp)))
  clear hb1
  go_wp2_with fail
  go_returns
  exact ⟨rfl, HB1.out⟩
theorem classesApart_walk (v : Value) (l : List (Nat → Bool)) (g : Nat → Bool) (x y : Int) (w : World) (h : RdSets w v l) (hnil : ∀ c, v = .slice none 0 c → c = 0) (hx : 0 ≤ x ∧ x ≤ 255) (hy : 0 ≤ y ∧ y ≤ 255) :
    Calls Try.prog 5 #[v, setOf g, .int .u8 x, .int .u8 y] w fun e w' => e = .returned (.bool true) ∧ Below w.heap.size w w' := by
  obtain ⟨x, rfl⟩ := Int.eq_ofNat_of_zero_le hx.1
  obtain ⟨y, rfl⟩ := Int.eq_ofNat_of_zero_le hy.1
  have hv : ∃ a cap, v = .slice a l.length cap ∧ (l.length = 0 ∨ ∃ b off, a = some ⟨b, off, none⟩) := by
    rcases h with ⟨h0, a, c, rfl⟩ | ⟨b, off, cap, rfl, _⟩
    · have h1 : l.length = 0 := by have := congrArg List.length h0; rwa [List.length_map] at this
      exact ⟨a, c, by rw [h1], .inl h1⟩
    · exact ⟨_, cap, by rw [List.length_map], .inr ⟨b, off, rfl⟩⟩
  obtain ⟨a, cap, rfl, hab⟩ := hv
  by_cases hl : l.length ≤ 40
  · exact classesApart_in a cap l.length l g x y w rfl h hnil (by omega) (by omega) hl hab
  · exact classesApart_out a cap l.length g x y w (by omega)
section
variable {H : Type} {enc : TypeId × Value → H} {P : Program} {W : World} {base : Nat} {spare : Nat → Bool} {held : Bool} {t e : TypeId}
theorem nil_cap {len cap : Nat} {a : Option Addr} {d : DataW H} {ps : List MemPlace} {ts : List TypeId} {ds : List (DataW H)} {j : Nat}
    (hsz : (DataW.weightsEach P ts ds).all (· ≤ reachBytes) = true) (ht : ts[j]? = some t) (hd : ds[j]? = some d) (hu : P.underlying t = some (.slice e)) {B : Nat} (hB : P.bytesOf e = B)
    (h : DataW.Trod enc P W base spare held t (.slice a len cap) d ps) : ∀ c, Value.slice a len cap = .slice none 0 c → c = 0 := by
  intro c hc
  injection hc with e1 e2 e3
  subst e1; subst e2; subst e3
  rcases open_slice hsz ht hd hu hB h with ⟨_, _, h3⟩ | ⟨x, _, _, h1, _⟩
  · exact h3
  · cases h1
end
end Go.Proofs.Ytklpjlcphikfaaa
