/-
  No cell of these rows narrows 'for every input' (looked for: loops, veiled, ifaces, maps, wideKeys, modest, calm, conditions, laid).
  DERIVED. THE GIVEN ROWS OF THIS SEAT. 4 by the template 'for every input the law returns true; each argument reads behind the call as it read before'; 0 by the template 'total and deterministic' (their statements: YtpikoijohfmnaaaTotals.lean).
  GIVEN WITH THE SEED: the statements are not yours to turn. If you find one false, say at which input.
  Laid BY PROGRAM, IN A SANDBOX (cutbox-rows.mjs): the forced cells as the released guide's own fill.sh prints them over the translation 4b30750166bca987… (all of the seat's roots in one cut). By AI agents, Wed Nov 11 2026. No macro, syntax, notation, axiom, sorry.
-/
import Derived.Test.YtpikoijohfmnaaaChecked
import GoSem.Claim
import GoSem.ClaimJoined
import GoSem.ClaimMapViews
import Derived.JoinedTies
import Derived.KernelRfl
namespace Go.Proofs.Ytpikoijohfmnaaa
/- THE CELL 'sum', in the pinned program and in every row, IS THE sha256 OF THE DUMP (.gsa) THAT YtpikoijohfmnaaaProg.lean LOADS. Nothing in Lean hashes anything: it is a label: what it is worth is what the hold of that sum in a sandbox is worth. -/
noncomputable def Try.pinned : Pinned := { name := "ytpikoijohfmnaaa", sum := "4b30750166bca987a4f03c899d483b56d6c5a2ac38f33b6165750cd50603f8b9", checked := Try.checked }
namespace Rows
def none {H : Type} : Left H := { results := [], args := [] }

/-- 'snafflelaw10.CtPlays': WHATEVER THE INPUT: true; the input reads as it did. -/
def ctPlaysSpec : ChangeSpec := { name := "ctPlays", fn := fun _ => fun
  | [d1, d2, d3] => { results := [.lit (.bool true)], args := [d1, d2, d3] }
  | _ => none }
def ctPlaysRow : OpenClaim := { program := "ytpikoijohfmnaaa", sum := "4b30750166bca987a4f03c899d483b56d6c5a2ac38f33b6165750cd50603f8b9", func := "snaffle/snafflelaw10.CtPlays", spec := "ctPlays", inPlace := ["math/bits.Sub64"], unfollowed := true, recurses := true, apart := false }
def CtPlaysSaid : Prop := ctPlaysRow.holds Try.pinned (OpenSpec.ofChange ctPlaysSpec)

/-- ITS FALSE NEIGHBOUR: 'it returns false'. Refute it at one input. -/
def ctPlaysWrong : ChangeSpec := { name := "ctPlays", fn := fun _ => fun
  | [d1, d2, d3] => { results := [.lit (.bool false)], args := [d1, d2, d3] }
  | _ => none }
def CtPlaysWrongFalsely : Prop := ctPlaysRow.holds Try.pinned (OpenSpec.ofChange ctPlaysWrong)

/-- 'snafflelaw10.CtBlind': WHATEVER THE INPUT: true; the input reads as it did. -/
def ctBlindSpec : ChangeSpec := { name := "ctBlind", fn := fun _ => fun
  | [d1, d2, d3] => { results := [.lit (.bool true)], args := [d1, d2, d3] }
  | _ => none }
def ctBlindRow : OpenClaim := { program := "ytpikoijohfmnaaa", sum := "4b30750166bca987a4f03c899d483b56d6c5a2ac38f33b6165750cd50603f8b9", func := "snaffle/snafflelaw10.CtBlind", spec := "ctBlind", inPlace := ["math/bits.Sub64"], unfollowed := true, recurses := true, apart := false }
def CtBlindSaid : Prop := ctBlindRow.holds Try.pinned (OpenSpec.ofChange ctBlindSpec)

/-- ITS FALSE NEIGHBOUR: 'it returns false'. Refute it at one input. -/
def ctBlindWrong : ChangeSpec := { name := "ctBlind", fn := fun _ => fun
  | [d1, d2, d3] => { results := [.lit (.bool false)], args := [d1, d2, d3] }
  | _ => none }
def CtBlindWrongFalsely : Prop := ctBlindRow.holds Try.pinned (OpenSpec.ofChange ctBlindWrong)

/-- 'snafflelaw11.MacroLooks': WHATEVER THE INPUT: true; the input reads as it did. -/
def macroLooksSpec : ChangeSpec := { name := "macroLooks", fn := fun _ => fun
  | [d1, d2, d3, d4] => { results := [.lit (.bool true)], args := [d1, d2, d3, d4] }
  | _ => none }
def macroLooksRow : OpenClaim := { program := "ytpikoijohfmnaaa", sum := "4b30750166bca987a4f03c899d483b56d6c5a2ac38f33b6165750cd50603f8b9", func := "snaffle/snafflelaw11.MacroLooks", spec := "macroLooks", inPlace := ["math/bits.Sub64"], unfollowed := true, recurses := true, apart := false }
def MacroLooksSaid : Prop := macroLooksRow.holds Try.pinned (OpenSpec.ofChange macroLooksSpec)

/-- ITS FALSE NEIGHBOUR: 'it returns false'. Refute it at one input. -/
def macroLooksWrong : ChangeSpec := { name := "macroLooks", fn := fun _ => fun
  | [d1, d2, d3, d4] => { results := [.lit (.bool false)], args := [d1, d2, d3, d4] }
  | _ => none }
def MacroLooksWrongFalsely : Prop := macroLooksRow.holds Try.pinned (OpenSpec.ofChange macroLooksWrong)

/-- 'snafflelaw11.MacroTells': WHATEVER THE INPUT: true; the input reads as it did. -/
def macroTellsSpec : ChangeSpec := { name := "macroTells", fn := fun _ => fun
  | [d1, d2, d3, d4, d5, d6, d7, d8] => { results := [.lit (.bool true)], args := [d1, d2, d3, d4, d5, d6, d7, d8] }
  | _ => none }
def macroTellsRow : OpenClaim := { program := "ytpikoijohfmnaaa", sum := "4b30750166bca987a4f03c899d483b56d6c5a2ac38f33b6165750cd50603f8b9", func := "snaffle/snafflelaw11.MacroTells", spec := "macroTells", inPlace := ["math/bits.Sub64"], unfollowed := true, recurses := true, apart := false }
def MacroTellsSaid : Prop := macroTellsRow.holds Try.pinned (OpenSpec.ofChange macroTellsSpec)

/-- ITS FALSE NEIGHBOUR: 'it returns false'. Refute it at one input. -/
def macroTellsWrong : ChangeSpec := { name := "macroTells", fn := fun _ => fun
  | [d1, d2, d3, d4, d5, d6, d7, d8] => { results := [.lit (.bool false)], args := [d1, d2, d3, d4, d5, d6, d7, d8] }
  | _ => none }
def MacroTellsWrongFalsely : Prop := macroTellsRow.holds Try.pinned (OpenSpec.ofChange macroTellsWrong)

/- THE SECOND FORM. 'bulk': how many values and letters a reading holds, each counted each time it is reached (what is shared counts as often as it is met; a slice's spare places count too). A statement '..UptoSaid' is the law's where the arguments, and the package variables that the reading takes, are together of bulk at most 1048576: NARROWER than '..Said'. Prove '..Said' where nothing that the law and all that it calls make is longer than what came in: it says more and counts as full. Else prove '..UptoSaid'. A law counts once. -/
mutual
def uptoBulk {H : Type} : DataW H → Nat
  | .lit (.string bytes) => bytes.length + 1
  | .lit _ => 1
  | .nil => 1
  | .ptr d => uptoBulk d + 1
  | .slice elems spare => uptoBulkAll elems + uptoBulkAll spare + 1
  | .agg parts => uptoBulkAll parts + 1
  | .iface _ d => uptoBulk d + 1
  | .map entries => uptoBulkEntries entries + 1
  | .held _ => 1
def uptoBulkAll {H : Type} : List (DataW H) → Nat
  | [] => 0
  | d :: r => uptoBulk d + uptoBulkAll r
def uptoBulkEntries {H : Type} : List (Lit × DataW H) → Nat
  | [] => 0
  | x :: r => uptoBulkEntry x + uptoBulkEntries r
def uptoBulkEntry {H : Type} : Lit × DataW H → Nat
  | (.string bytes, d) => bytes.length + uptoBulk d + 1
  | (_, d) => uptoBulk d + 1
 end
def uptoSmall : (H : Type) → List (DataW H) → Bool := fun _ ds => decide (uptoBulkAll ds ≤ 1048576)
def OpenSpec.upto (s : _root_.Go.ChangeSpec) : _root_.Go.OpenSpec := { _root_.Go.OpenSpec.ofChange s with cond := some uptoSmall }

/-- 'snafflelaw10.CtPlays', WHERE WHAT IT READS IS OF BULK AT MOST 1048576: true; the input reads as it did. -/
def ctPlaysUptoRow : OpenClaim := { program := "ytpikoijohfmnaaa", sum := "4b30750166bca987a4f03c899d483b56d6c5a2ac38f33b6165750cd50603f8b9", func := "snaffle/snafflelaw10.CtPlays", spec := "ctPlays", inPlace := ["math/bits.Sub64"], unfollowed := true, recurses := true, apart := false, narrowed := true }
def CtPlaysUptoSaid : Prop := ctPlaysUptoRow.holds Try.pinned (OpenSpec.upto ctPlaysSpec)

/-- 'snafflelaw10.CtBlind', WHERE WHAT IT READS IS OF BULK AT MOST 1048576: true; the input reads as it did. -/
def ctBlindUptoRow : OpenClaim := { program := "ytpikoijohfmnaaa", sum := "4b30750166bca987a4f03c899d483b56d6c5a2ac38f33b6165750cd50603f8b9", func := "snaffle/snafflelaw10.CtBlind", spec := "ctBlind", inPlace := ["math/bits.Sub64"], unfollowed := true, recurses := true, apart := false, narrowed := true }
def CtBlindUptoSaid : Prop := ctBlindUptoRow.holds Try.pinned (OpenSpec.upto ctBlindSpec)

/-- 'snafflelaw11.MacroLooks', WHERE WHAT IT READS IS OF BULK AT MOST 1048576: true; the input reads as it did. -/
def macroLooksUptoRow : OpenClaim := { program := "ytpikoijohfmnaaa", sum := "4b30750166bca987a4f03c899d483b56d6c5a2ac38f33b6165750cd50603f8b9", func := "snaffle/snafflelaw11.MacroLooks", spec := "macroLooks", inPlace := ["math/bits.Sub64"], unfollowed := true, recurses := true, apart := false, narrowed := true }
def MacroLooksUptoSaid : Prop := macroLooksUptoRow.holds Try.pinned (OpenSpec.upto macroLooksSpec)

/-- 'snafflelaw11.MacroTells', WHERE WHAT IT READS IS OF BULK AT MOST 1048576: true; the input reads as it did. -/
def macroTellsUptoRow : OpenClaim := { program := "ytpikoijohfmnaaa", sum := "4b30750166bca987a4f03c899d483b56d6c5a2ac38f33b6165750cd50603f8b9", func := "snaffle/snafflelaw11.MacroTells", spec := "macroTells", inPlace := ["math/bits.Sub64"], unfollowed := true, recurses := true, apart := false, narrowed := true }
def MacroTellsUptoSaid : Prop := macroTellsUptoRow.holds Try.pinned (OpenSpec.upto macroTellsSpec)

end Rows
end Go.Proofs.Ytpikoijohfmnaaa
