/- An operation whose guard itself was left out. -/
import Derived.Test.YtaafmfooommepaaDoorRegX
set_option linter.unusedVariables false
namespace Go.Proofs.YtaafmfooommepaaDoor
open Go.RowKit
namespace Rg
section
variable {P : Program} {ops : Array Oper} {Q : Exit → Act → World → Prop} {J : World → Prop} {b : Act}
theorem one_und {Rs : List (Nat × Rl)} {o : Oper} (j t : Nat) (g : Bool) (hg : o.guard = some (j, g)) (hw : waits o j = true) (ht : (ops.toList[j]?).bind (·.dst) = some t) (hr : look Rs j = some (eq undef)) : One P ops Q J b Rs o (eq undef) :=
  fun a w hk => by
    have hy : yielded ops a.tmps j = none := by
      obtain ⟨v, hv, rfl⟩ := hk.dep j t _ hw ht hr
      have ht' : (ops[j]?).bind (·.dst) = some t := by simpa using ht
      unfold yielded; rw [ht']; simp [hv, undef]
    rw [if_neg (by simp [Region.wanted, hg, hy])]; rfl
end
end Rg
namespace RgX
section
variable {P : Program} {ops : Array Oper} {Q : Exit → Act → World → Prop} {E : Nat → World → World → Prop} {Fs : List Fc} {b : Act}
theorem one_und {Rs : List (Nat × Rl)} {i : Nat} {o : Oper} (j t : Nat) (g : Bool) (hg : o.guard = some (j, g)) (hw : Rg.waitsFar ops.toList 0 o j = true) (ht : (ops.toList[j]?).bind (·.dst) = some t) (hr : look Rs j = some (eq undef)) : One P ops Q E Fs b Rs i o (eq undef) :=
  fun a w hk => by
    have hy : yielded ops a.tmps j = none := by
      obtain ⟨v, hv, hR⟩ := hk.dep 0 j t _ hw ht hr
      obtain rfl : v = undef := hR 0 undef rfl rfl
      have ht' : (ops[j]?).bind (·.dst) = some t := by simpa using ht
      unfold yielded; rw [ht']; simp [hv, undef]
    rw [if_neg (by simp [Region.wanted, hg, hy])]; exact fun _ _ => rfl
end
end RgX
end Go.Proofs.YtaafmfooommepaaDoor
