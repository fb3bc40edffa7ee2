/-
  No cell of these rows narrows 'for every input' (looked for: loops, veiled, ifaces, maps, wideKeys, modest, calm, conditions, laid).
  DERIVED. THE GIVEN ROWS OF THIS SEAT. 11 by the template 'for every input the law returns true; each argument reads behind the call as it read before'; 0 by the template 'total and deterministic' (their statements: YtklpjlcphikfaaaTotals.lean).
  GIVEN WITH THE SEED: the statements are not yours to turn. If you find one false, say at which input.
  Laid BY PROGRAM, IN A SANDBOX (cutbox-rows.mjs): the forced cells as the released guide's own fill.sh prints them over the translation 3df492059bcfe4be… (all of the seat's roots in one cut). By AI agents, Wed Nov 11 2026. No macro, syntax, notation, axiom, sorry.
-/
import Derived.Test.YtklpjlcphikfaaaChecked
import GoSem.Claim
import GoSem.ClaimJoined
import GoSem.ClaimMapViews
import Derived.JoinedTies
import Derived.KernelRfl
namespace Go.Proofs.Ytklpjlcphikfaaa
/- THE CELL 'sum', in the pinned program and in every row, IS THE sha256 OF THE DUMP (.gsa) THAT YtklpjlcphikfaaaProg.lean LOADS. Nothing in Lean hashes anything: it is a label: what it is worth is what the hold of that sum in a sandbox is worth. -/
noncomputable def Try.pinned : Pinned := { name := "ytklpjlcphikfaaa", sum := "3df492059bcfe4be30c876bb59037aa63438d74b3e56490bd5e808cd27110a43", checked := Try.checked }
namespace Rows
def none {H : Type} : Left H := { results := [], args := [] }

/-- 'snafflelaw19.PackTells': WHATEVER THE INPUT: true; the input reads as it did. -/
def packTellsSpec : ChangeSpec := { name := "packTells", fn := fun _ => fun
  | [d] => { results := [.lit (.bool true)], args := [d] }
  | _ => none }
def packTellsRow : OpenClaim := { program := "ytklpjlcphikfaaa", sum := "3df492059bcfe4be30c876bb59037aa63438d74b3e56490bd5e808cd27110a43", func := "snaffle/snafflelaw19.PackTells", spec := "packTells", apart := false }
def PackTellsSaid : Prop := packTellsRow.holds Try.pinned (OpenSpec.ofChange packTellsSpec)

/-- ITS FALSE NEIGHBOUR: 'it returns false'. Refute it at one input. -/
def packTellsWrong : ChangeSpec := { name := "packTells", fn := fun _ => fun
  | [d] => { results := [.lit (.bool false)], args := [d] }
  | _ => none }
def PackTellsWrongFalsely : Prop := packTellsRow.holds Try.pinned (OpenSpec.ofChange packTellsWrong)

/-- 'snafflelaw05.ClassesTells': WHATEVER THE INPUT: true; the input reads as it did. -/
def classesTellsSpec : ChangeSpec := { name := "classesTells", fn := fun _ => fun
  | [d] => { results := [.lit (.bool true)], args := [d] }
  | _ => none }
def classesTellsRow : OpenClaim := { program := "ytklpjlcphikfaaa", sum := "3df492059bcfe4be30c876bb59037aa63438d74b3e56490bd5e808cd27110a43", func := "snaffle/snafflelaw05.ClassesTells", spec := "classesTells", apart := false }
def ClassesTellsSaid : Prop := classesTellsRow.holds Try.pinned (OpenSpec.ofChange classesTellsSpec)

/-- ITS FALSE NEIGHBOUR: 'it returns false'. Refute it at one input. -/
def classesTellsWrong : ChangeSpec := { name := "classesTells", fn := fun _ => fun
  | [d] => { results := [.lit (.bool false)], args := [d] }
  | _ => none }
def ClassesTellsWrongFalsely : Prop := classesTellsRow.holds Try.pinned (OpenSpec.ofChange classesTellsWrong)

/-- 'snafflelaw05.ClassesApart': WHATEVER THE INPUT: true; the input reads as it did. -/
def classesApartSpec : ChangeSpec := { name := "classesApart", fn := fun _ => fun
  | [d1, d2, d3, d4] => { results := [.lit (.bool true)], args := [d1, d2, d3, d4] }
  | _ => none }
def classesApartRow : OpenClaim := { program := "ytklpjlcphikfaaa", sum := "3df492059bcfe4be30c876bb59037aa63438d74b3e56490bd5e808cd27110a43", func := "snaffle/snafflelaw05.ClassesApart", spec := "classesApart", apart := false }
def ClassesApartSaid : Prop := classesApartRow.holds Try.pinned (OpenSpec.ofChange classesApartSpec)

/-- ITS FALSE NEIGHBOUR: 'it returns false'. Refute it at one input. -/
def classesApartWrong : ChangeSpec := { name := "classesApart", fn := fun _ => fun
  | [d1, d2, d3, d4] => { results := [.lit (.bool false)], args := [d1, d2, d3, d4] }
  | _ => none }
def ClassesApartWrongFalsely : Prop := classesApartRow.holds Try.pinned (OpenSpec.ofChange classesApartWrong)

/-- 'snafflelaw08.LuhnTells': WHATEVER THE INPUT: true; the input reads as it did. -/
def luhnTellsSpec : ChangeSpec := { name := "luhnTells", fn := fun _ => fun
  | [d] => { results := [.lit (.bool true)], args := [d] }
  | _ => none }
def luhnTellsRow : OpenClaim := { program := "ytklpjlcphikfaaa", sum := "3df492059bcfe4be30c876bb59037aa63438d74b3e56490bd5e808cd27110a43", func := "snaffle/snafflelaw08.LuhnTells", spec := "luhnTells", apart := false }
def LuhnTellsSaid : Prop := luhnTellsRow.holds Try.pinned (OpenSpec.ofChange luhnTellsSpec)

/-- ITS FALSE NEIGHBOUR: 'it returns false'. Refute it at one input. -/
def luhnTellsWrong : ChangeSpec := { name := "luhnTells", fn := fun _ => fun
  | [d] => { results := [.lit (.bool false)], args := [d] }
  | _ => none }
def LuhnTellsWrongFalsely : Prop := luhnTellsRow.holds Try.pinned (OpenSpec.ofChange luhnTellsWrong)

/-- 'snafflelaw08.LuhnTurned': WHATEVER THE INPUT: true; the input reads as it did. -/
def luhnTurnedSpec : ChangeSpec := { name := "luhnTurned", fn := fun _ => fun
  | [d1, d2, d3, d4] => { results := [.lit (.bool true)], args := [d1, d2, d3, d4] }
  | _ => none }
def luhnTurnedRow : OpenClaim := { program := "ytklpjlcphikfaaa", sum := "3df492059bcfe4be30c876bb59037aa63438d74b3e56490bd5e808cd27110a43", func := "snaffle/snafflelaw08.LuhnTurned", spec := "luhnTurned", apart := false }
def LuhnTurnedSaid : Prop := luhnTurnedRow.holds Try.pinned (OpenSpec.ofChange luhnTurnedSpec)

/-- ITS FALSE NEIGHBOUR: 'it returns false'. Refute it at one input. -/
def luhnTurnedWrong : ChangeSpec := { name := "luhnTurned", fn := fun _ => fun
  | [d1, d2, d3, d4] => { results := [.lit (.bool false)], args := [d1, d2, d3, d4] }
  | _ => none }
def LuhnTurnedWrongFalsely : Prop := luhnTurnedRow.holds Try.pinned (OpenSpec.ofChange luhnTurnedWrong)

/-- 'snafflelaw13.PacePlays': WHATEVER THE INPUT: true; the input reads as it did. -/
def pacePlaysSpec : ChangeSpec := { name := "pacePlays", fn := fun _ => fun
  | [d1, d2] => { results := [.lit (.bool true)], args := [d1, d2] }
  | _ => none }
def pacePlaysRow : OpenClaim := { program := "ytklpjlcphikfaaa", sum := "3df492059bcfe4be30c876bb59037aa63438d74b3e56490bd5e808cd27110a43", func := "snaffle/snafflelaw13.PacePlays", spec := "pacePlays", apart := false }
def PacePlaysSaid : Prop := pacePlaysRow.holds Try.pinned (OpenSpec.ofChange pacePlaysSpec)

/-- ITS FALSE NEIGHBOUR: 'it returns false'. Refute it at one input. -/
def pacePlaysWrong : ChangeSpec := { name := "pacePlays", fn := fun _ => fun
  | [d1, d2] => { results := [.lit (.bool false)], args := [d1, d2] }
  | _ => none }
def PacePlaysWrongFalsely : Prop := pacePlaysRow.holds Try.pinned (OpenSpec.ofChange pacePlaysWrong)

/-- 'snafflelaw13.PaceLeft': WHATEVER THE INPUT: true; the input reads as it did. -/
def paceLeftSpec : ChangeSpec := { name := "paceLeft", fn := fun _ => fun
  | [d1, d2, d3, d4] => { results := [.lit (.bool true)], args := [d1, d2, d3, d4] }
  | _ => none }
def paceLeftRow : OpenClaim := { program := "ytklpjlcphikfaaa", sum := "3df492059bcfe4be30c876bb59037aa63438d74b3e56490bd5e808cd27110a43", func := "snaffle/snafflelaw13.PaceLeft", spec := "paceLeft", apart := false }
def PaceLeftSaid : Prop := paceLeftRow.holds Try.pinned (OpenSpec.ofChange paceLeftSpec)

/-- ITS FALSE NEIGHBOUR: 'it returns false'. Refute it at one input. -/
def paceLeftWrong : ChangeSpec := { name := "paceLeft", fn := fun _ => fun
  | [d1, d2, d3, d4] => { results := [.lit (.bool false)], args := [d1, d2, d3, d4] }
  | _ => none }
def PaceLeftWrongFalsely : Prop := paceLeftRow.holds Try.pinned (OpenSpec.ofChange paceLeftWrong)

/-- 'snafflelaw01.SetTells': WHATEVER THE INPUT: true; the input reads as it did. -/
def setTellsSpec : ChangeSpec := { name := "setTells", fn := fun _ => fun
  | [d1, d2, d3, d4, d5, d6] => { results := [.lit (.bool true)], args := [d1, d2, d3, d4, d5, d6] }
  | _ => none }
def setTellsRow : OpenClaim := { program := "ytklpjlcphikfaaa", sum := "3df492059bcfe4be30c876bb59037aa63438d74b3e56490bd5e808cd27110a43", func := "snaffle/snafflelaw01.SetTells", spec := "setTells", apart := false }
def SetTellsSaid : Prop := setTellsRow.holds Try.pinned (OpenSpec.ofChange setTellsSpec)

/-- ITS FALSE NEIGHBOUR: 'it returns false'. Refute it at one input. -/
def setTellsWrong : ChangeSpec := { name := "setTells", fn := fun _ => fun
  | [d1, d2, d3, d4, d5, d6] => { results := [.lit (.bool false)], args := [d1, d2, d3, d4, d5, d6] }
  | _ => none }
def SetTellsWrongFalsely : Prop := setTellsRow.holds Try.pinned (OpenSpec.ofChange setTellsWrong)

/-- 'snafflelaw01.SetBack': WHATEVER THE INPUT: true; the input reads as it did. -/
def setBackSpec : ChangeSpec := { name := "setBack", fn := fun _ => fun
  | [d1, d2, d3, d4, d5, d6] => { results := [.lit (.bool true)], args := [d1, d2, d3, d4, d5, d6] }
  | _ => none }
def setBackRow : OpenClaim := { program := "ytklpjlcphikfaaa", sum := "3df492059bcfe4be30c876bb59037aa63438d74b3e56490bd5e808cd27110a43", func := "snaffle/snafflelaw01.SetBack", spec := "setBack", apart := false }
def SetBackSaid : Prop := setBackRow.holds Try.pinned (OpenSpec.ofChange setBackSpec)

/-- ITS FALSE NEIGHBOUR: 'it returns false'. Refute it at one input. -/
def setBackWrong : ChangeSpec := { name := "setBack", fn := fun _ => fun
  | [d1, d2, d3, d4, d5, d6] => { results := [.lit (.bool false)], args := [d1, d2, d3, d4, d5, d6] }
  | _ => none }
def SetBackWrongFalsely : Prop := setBackRow.holds Try.pinned (OpenSpec.ofChange setBackWrong)

/-- 'snafflelaw12.RateTells': WHATEVER THE INPUT: true; the input reads as it did. -/
def rateTellsSpec : ChangeSpec := { name := "rateTells", fn := fun _ => fun
  | [d1, d2, d3] => { results := [.lit (.bool true)], args := [d1, d2, d3] }
  | _ => none }
def rateTellsRow : OpenClaim := { program := "ytklpjlcphikfaaa", sum := "3df492059bcfe4be30c876bb59037aa63438d74b3e56490bd5e808cd27110a43", func := "snaffle/snafflelaw12.RateTells", spec := "rateTells", inPlace := ["math.Float64bits", "math.Float64frombits", "math.archFloor", "math.archTrunc"], apart := false }
def RateTellsSaid : Prop := rateTellsRow.holds Try.pinned (OpenSpec.ofChange rateTellsSpec)

/-- ITS FALSE NEIGHBOUR: 'it returns false'. Refute it at one input. -/
def rateTellsWrong : ChangeSpec := { name := "rateTells", fn := fun _ => fun
  | [d1, d2, d3] => { results := [.lit (.bool false)], args := [d1, d2, d3] }
  | _ => none }
def RateTellsWrongFalsely : Prop := rateTellsRow.holds Try.pinned (OpenSpec.ofChange rateTellsWrong)

/-- 'snafflelaw12.RateOrders': WHATEVER THE INPUT: true; the input reads as it did. -/
def rateOrdersSpec : ChangeSpec := { name := "rateOrders", fn := fun _ => fun
  | [d1, d2, d3, d4, d5] => { results := [.lit (.bool true)], args := [d1, d2, d3, d4, d5] }
  | _ => none }
def rateOrdersRow : OpenClaim := { program := "ytklpjlcphikfaaa", sum := "3df492059bcfe4be30c876bb59037aa63438d74b3e56490bd5e808cd27110a43", func := "snaffle/snafflelaw12.RateOrders", spec := "rateOrders", inPlace := ["math.Float64bits", "math.Float64frombits", "math.archFloor", "math.archTrunc"], apart := false }
def RateOrdersSaid : Prop := rateOrdersRow.holds Try.pinned (OpenSpec.ofChange rateOrdersSpec)

/-- ITS FALSE NEIGHBOUR: 'it returns false'. Refute it at one input. -/
def rateOrdersWrong : ChangeSpec := { name := "rateOrders", fn := fun _ => fun
  | [d1, d2, d3, d4, d5] => { results := [.lit (.bool false)], args := [d1, d2, d3, d4, d5] }
  | _ => none }
def RateOrdersWrongFalsely : Prop := rateOrdersRow.holds Try.pinned (OpenSpec.ofChange rateOrdersWrong)

/- THE SECOND FORM. 'bulk': how many values and letters a reading holds, each counted each time it is reached (what is shared counts as often as it is met; a slice's spare places count too). A statement '..UptoSaid' is the law's where the arguments, and the package variables that the reading takes, are together of bulk at most 1048576: NARROWER than '..Said'. Prove '..Said' where nothing that the law and all that it calls make is longer than what came in: it says more and counts as full. Else prove '..UptoSaid'. A law counts once. -/
mutual
def uptoBulk {H : Type} : DataW H → Nat
  | .lit (.string bytes) => bytes.length + 1
  | .lit _ => 1
  | .nil => 1
  | .ptr d => uptoBulk d + 1
  | .slice elems spare => uptoBulkAll elems + uptoBulkAll spare + 1
  | .agg parts => uptoBulkAll parts + 1
  | .iface _ d => uptoBulk d + 1
  | .map entries => uptoBulkEntries entries + 1
  | .held _ => 1
def uptoBulkAll {H : Type} : List (DataW H) → Nat
  | [] => 0
  | d :: r => uptoBulk d + uptoBulkAll r
def uptoBulkEntries {H : Type} : List (Lit × DataW H) → Nat
  | [] => 0
  | x :: r => uptoBulkEntry x + uptoBulkEntries r
def uptoBulkEntry {H : Type} : Lit × DataW H → Nat
  | (.string bytes, d) => bytes.length + uptoBulk d + 1
  | (_, d) => uptoBulk d + 1
 end
def uptoSmall : (H : Type) → List (DataW H) → Bool := fun _ ds => decide (uptoBulkAll ds ≤ 1048576)
def OpenSpec.upto (s : _root_.Go.ChangeSpec) : _root_.Go.OpenSpec := { _root_.Go.OpenSpec.ofChange s with cond := some uptoSmall }

/-- 'snafflelaw19.PackTells', WHERE WHAT IT READS IS OF BULK AT MOST 1048576: true; the input reads as it did. -/
def packTellsUptoRow : OpenClaim := { program := "ytklpjlcphikfaaa", sum := "3df492059bcfe4be30c876bb59037aa63438d74b3e56490bd5e808cd27110a43", func := "snaffle/snafflelaw19.PackTells", spec := "packTells", apart := false, narrowed := true }
def PackTellsUptoSaid : Prop := packTellsUptoRow.holds Try.pinned (OpenSpec.upto packTellsSpec)

/-- 'snafflelaw05.ClassesTells', WHERE WHAT IT READS IS OF BULK AT MOST 1048576: true; the input reads as it did. -/
def classesTellsUptoRow : OpenClaim := { program := "ytklpjlcphikfaaa", sum := "3df492059bcfe4be30c876bb59037aa63438d74b3e56490bd5e808cd27110a43", func := "snaffle/snafflelaw05.ClassesTells", spec := "classesTells", apart := false, narrowed := true }
def ClassesTellsUptoSaid : Prop := classesTellsUptoRow.holds Try.pinned (OpenSpec.upto classesTellsSpec)

/-- 'snafflelaw05.ClassesApart', WHERE WHAT IT READS IS OF BULK AT MOST 1048576: true; the input reads as it did. -/
def classesApartUptoRow : OpenClaim := { program := "ytklpjlcphikfaaa", sum := "3df492059bcfe4be30c876bb59037aa63438d74b3e56490bd5e808cd27110a43", func := "snaffle/snafflelaw05.ClassesApart", spec := "classesApart", apart := false, narrowed := true }
def ClassesApartUptoSaid : Prop := classesApartUptoRow.holds Try.pinned (OpenSpec.upto classesApartSpec)

/-- 'snafflelaw08.LuhnTells', WHERE WHAT IT READS IS OF BULK AT MOST 1048576: true; the input reads as it did. -/
def luhnTellsUptoRow : OpenClaim := { program := "ytklpjlcphikfaaa", sum := "3df492059bcfe4be30c876bb59037aa63438d74b3e56490bd5e808cd27110a43", func := "snaffle/snafflelaw08.LuhnTells", spec := "luhnTells", apart := false, narrowed := true }
def LuhnTellsUptoSaid : Prop := luhnTellsUptoRow.holds Try.pinned (OpenSpec.upto luhnTellsSpec)

/-- 'snafflelaw08.LuhnTurned', WHERE WHAT IT READS IS OF BULK AT MOST 1048576: true; the input reads as it did. -/
def luhnTurnedUptoRow : OpenClaim := { program := "ytklpjlcphikfaaa", sum := "3df492059bcfe4be30c876bb59037aa63438d74b3e56490bd5e808cd27110a43", func := "snaffle/snafflelaw08.LuhnTurned", spec := "luhnTurned", apart := false, narrowed := true }
def LuhnTurnedUptoSaid : Prop := luhnTurnedUptoRow.holds Try.pinned (OpenSpec.upto luhnTurnedSpec)

/-- 'snafflelaw13.PacePlays', WHERE WHAT IT READS IS OF BULK AT MOST 1048576: true; the input reads as it did. -/
def pacePlaysUptoRow : OpenClaim := { program := "ytklpjlcphikfaaa", sum := "3df492059bcfe4be30c876bb59037aa63438d74b3e56490bd5e808cd27110a43", func := "snaffle/snafflelaw13.PacePlays", spec := "pacePlays", apart := false, narrowed := true }
def PacePlaysUptoSaid : Prop := pacePlaysUptoRow.holds Try.pinned (OpenSpec.upto pacePlaysSpec)

/-- 'snafflelaw13.PaceLeft', WHERE WHAT IT READS IS OF BULK AT MOST 1048576: true; the input reads as it did. -/
def paceLeftUptoRow : OpenClaim := { program := "ytklpjlcphikfaaa", sum := "3df492059bcfe4be30c876bb59037aa63438d74b3e56490bd5e808cd27110a43", func := "snaffle/snafflelaw13.PaceLeft", spec := "paceLeft", apart := false, narrowed := true }
def PaceLeftUptoSaid : Prop := paceLeftUptoRow.holds Try.pinned (OpenSpec.upto paceLeftSpec)

/-- 'snafflelaw01.SetTells', WHERE WHAT IT READS IS OF BULK AT MOST 1048576: true; the input reads as it did. -/
def setTellsUptoRow : OpenClaim := { program := "ytklpjlcphikfaaa", sum := "3df492059bcfe4be30c876bb59037aa63438d74b3e56490bd5e808cd27110a43", func := "snaffle/snafflelaw01.SetTells", spec := "setTells", apart := false, narrowed := true }
def SetTellsUptoSaid : Prop := setTellsUptoRow.holds Try.pinned (OpenSpec.upto setTellsSpec)

/-- 'snafflelaw01.SetBack', WHERE WHAT IT READS IS OF BULK AT MOST 1048576: true; the input reads as it did. -/
def setBackUptoRow : OpenClaim := { program := "ytklpjlcphikfaaa", sum := "3df492059bcfe4be30c876bb59037aa63438d74b3e56490bd5e808cd27110a43", func := "snaffle/snafflelaw01.SetBack", spec := "setBack", apart := false, narrowed := true }
def SetBackUptoSaid : Prop := setBackUptoRow.holds Try.pinned (OpenSpec.upto setBackSpec)

/-- 'snafflelaw12.RateTells', WHERE WHAT IT READS IS OF BULK AT MOST 1048576: true; the input reads as it did. -/
def rateTellsUptoRow : OpenClaim := { program := "ytklpjlcphikfaaa", sum := "3df492059bcfe4be30c876bb59037aa63438d74b3e56490bd5e808cd27110a43", func := "snaffle/snafflelaw12.RateTells", spec := "rateTells", inPlace := ["math.Float64bits", "math.Float64frombits", "math.archFloor", "math.archTrunc"], apart := false, narrowed := true }
def RateTellsUptoSaid : Prop := rateTellsUptoRow.holds Try.pinned (OpenSpec.upto rateTellsSpec)

/-- 'snafflelaw12.RateOrders', WHERE WHAT IT READS IS OF BULK AT MOST 1048576: true; the input reads as it did. -/
def rateOrdersUptoRow : OpenClaim := { program := "ytklpjlcphikfaaa", sum := "3df492059bcfe4be30c876bb59037aa63438d74b3e56490bd5e808cd27110a43", func := "snaffle/snafflelaw12.RateOrders", spec := "rateOrders", inPlace := ["math.Float64bits", "math.Float64frombits", "math.archFloor", "math.archTrunc"], apart := false, narrowed := true }
def RateOrdersUptoSaid : Prop := rateOrdersUptoRow.holds Try.pinned (OpenSpec.upto rateOrdersSpec)

end Rows
end Go.Proofs.Ytklpjlcphikfaaa
