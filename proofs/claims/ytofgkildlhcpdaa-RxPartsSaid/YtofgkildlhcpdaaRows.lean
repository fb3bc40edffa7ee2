/-
  No cell of these rows narrows 'for every input' (looked for: loops, veiled, ifaces, maps, wideKeys, modest, calm, conditions, laid).
  DERIVED. THE GIVEN ROWS OF THIS SEAT. 6 by the template 'for every input the law returns true; each argument reads behind the call as it read before'; 0 by the template 'total and deterministic' (their statements: YtofgkildlhcpdaaTotals.lean).
  GIVEN WITH THE SEED: the statements are not yours to turn. If you find one false, say at which input.
  Laid BY PROGRAM, IN A SANDBOX (cutbox-rows.mjs): the forced cells as the released guide's own fill.sh prints them over the translation fcbe1911be222dd0… (all of the seat's roots in one cut). By AI agents, Wed Nov 11 2026. No macro, syntax, notation, axiom, sorry.
-/
import Derived.Test.YtofgkildlhcpdaaChecked
import GoSem.Claim
import GoSem.ClaimJoined
import GoSem.ClaimMapViews
import Derived.JoinedTies
import Derived.KernelRfl
namespace Go.Proofs.Ytofgkildlhcpdaa
/- THE CELL 'sum', in the pinned program and in every row, IS THE sha256 OF THE DUMP (.gsa) THAT YtofgkildlhcpdaaProg.lean LOADS. Nothing in Lean hashes anything: it is a label: what it is worth is what the hold of that sum in a sandbox is worth. -/
noncomputable def Try.pinned : Pinned := { name := "ytofgkildlhcpdaa", sum := "fcbe1911be222dd0c3d92f9e52ebc3e919c3d99bb9b4cce4f79fcf2be443cdf3", checked := Try.checked }
namespace Rows
def none {H : Type} : Left H := { results := [], args := [] }

/-- 'snafflelaw03.LangTells': WHATEVER THE INPUT: true; the input reads as it did. -/
def langTellsSpec : ChangeSpec := { name := "langTells", fn := fun _ => fun
  | [d1, d2] => { results := [.lit (.bool true)], args := [d1, d2] }
  | _ => none }
def langTellsRow : OpenClaim := { program := "ytofgkildlhcpdaa", sum := "fcbe1911be222dd0c3d92f9e52ebc3e919c3d99bb9b4cce4f79fcf2be443cdf3", func := "snaffle/snafflelaw03.LangTells", spec := "langTells", recurses := true, apart := false }
def LangTellsSaid : Prop := langTellsRow.holds Try.pinned (OpenSpec.ofChange langTellsSpec)

/-- ITS FALSE NEIGHBOUR: 'it returns false'. Refute it at one input. -/
def langTellsWrong : ChangeSpec := { name := "langTells", fn := fun _ => fun
  | [d1, d2] => { results := [.lit (.bool false)], args := [d1, d2] }
  | _ => none }
def LangTellsWrongFalsely : Prop := langTellsRow.holds Try.pinned (OpenSpec.ofChange langTellsWrong)

/-- 'snafflelaw03.LangParts': WHATEVER THE INPUT: true; the input reads as it did. -/
def langPartsSpec : ChangeSpec := { name := "langParts", fn := fun _ => fun
  | [d1, d2, d3, d4] => { results := [.lit (.bool true)], args := [d1, d2, d3, d4] }
  | _ => none }
def langPartsRow : OpenClaim := { program := "ytofgkildlhcpdaa", sum := "fcbe1911be222dd0c3d92f9e52ebc3e919c3d99bb9b4cce4f79fcf2be443cdf3", func := "snaffle/snafflelaw03.LangParts", spec := "langParts", recurses := true, apart := false }
def LangPartsSaid : Prop := langPartsRow.holds Try.pinned (OpenSpec.ofChange langPartsSpec)

/-- ITS FALSE NEIGHBOUR: 'it returns false'. Refute it at one input. -/
def langPartsWrong : ChangeSpec := { name := "langParts", fn := fun _ => fun
  | [d1, d2, d3, d4] => { results := [.lit (.bool false)], args := [d1, d2, d3, d4] }
  | _ => none }
def LangPartsWrongFalsely : Prop := langPartsRow.holds Try.pinned (OpenSpec.ofChange langPartsWrong)

/-- 'snafflelaw09.MaskTells': WHATEVER THE INPUT: true; the input reads as it did. -/
def maskTellsSpec : ChangeSpec := { name := "maskTells", fn := fun _ => fun
  | [d1, d2, d3, d4, d5] => { results := [.lit (.bool true)], args := [d1, d2, d3, d4, d5] }
  | _ => none }
def maskTellsRow : OpenClaim := { program := "ytofgkildlhcpdaa", sum := "fcbe1911be222dd0c3d92f9e52ebc3e919c3d99bb9b4cce4f79fcf2be443cdf3", func := "snaffle/snafflelaw09.MaskTells", spec := "maskTells", unfollowed := true, recurses := true, apart := false }
def MaskTellsSaid : Prop := maskTellsRow.holds Try.pinned (OpenSpec.ofChange maskTellsSpec)

/-- ITS FALSE NEIGHBOUR: 'it returns false'. Refute it at one input. -/
def maskTellsWrong : ChangeSpec := { name := "maskTells", fn := fun _ => fun
  | [d1, d2, d3, d4, d5] => { results := [.lit (.bool false)], args := [d1, d2, d3, d4, d5] }
  | _ => none }
def MaskTellsWrongFalsely : Prop := maskTellsRow.holds Try.pinned (OpenSpec.ofChange maskTellsWrong)

/-- 'snafflelaw09.MaskMore': WHATEVER THE INPUT: true; the input reads as it did. -/
def maskMoreSpec : ChangeSpec := { name := "maskMore", fn := fun _ => fun
  | [d1, d2, d3, d4, d5, d6, d7, d8] => { results := [.lit (.bool true)], args := [d1, d2, d3, d4, d5, d6, d7, d8] }
  | _ => none }
def maskMoreRow : OpenClaim := { program := "ytofgkildlhcpdaa", sum := "fcbe1911be222dd0c3d92f9e52ebc3e919c3d99bb9b4cce4f79fcf2be443cdf3", func := "snaffle/snafflelaw09.MaskMore", spec := "maskMore", unfollowed := true, recurses := true, apart := false }
def MaskMoreSaid : Prop := maskMoreRow.holds Try.pinned (OpenSpec.ofChange maskMoreSpec)

/-- ITS FALSE NEIGHBOUR: 'it returns false'. Refute it at one input. -/
def maskMoreWrong : ChangeSpec := { name := "maskMore", fn := fun _ => fun
  | [d1, d2, d3, d4, d5, d6, d7, d8] => { results := [.lit (.bool false)], args := [d1, d2, d3, d4, d5, d6, d7, d8] }
  | _ => none }
def MaskMoreWrongFalsely : Prop := maskMoreRow.holds Try.pinned (OpenSpec.ofChange maskMoreWrong)

/-- 'snafflelaw02.RxTells': WHATEVER THE INPUT: true; the input reads as it did. -/
def rxTellsSpec : ChangeSpec := { name := "rxTells", fn := fun _ => fun
  | [d] => { results := [.lit (.bool true)], args := [d] }
  | _ => none }
def rxTellsRow : OpenClaim := { program := "ytofgkildlhcpdaa", sum := "fcbe1911be222dd0c3d92f9e52ebc3e919c3d99bb9b4cce4f79fcf2be443cdf3", func := "snaffle/snafflelaw02.RxTells", spec := "rxTells", inPlace := ["internal/bytealg.IndexByteString"], unfollowed := true, recurses := true, apart := false }
def RxTellsSaid : Prop := rxTellsRow.holds Try.pinned (OpenSpec.ofChange rxTellsSpec)

/-- ITS FALSE NEIGHBOUR: 'it returns false'. Refute it at one input. -/
def rxTellsWrong : ChangeSpec := { name := "rxTells", fn := fun _ => fun
  | [d] => { results := [.lit (.bool false)], args := [d] }
  | _ => none }
def RxTellsWrongFalsely : Prop := rxTellsRow.holds Try.pinned (OpenSpec.ofChange rxTellsWrong)

/-- 'snafflelaw02.RxParts': WHATEVER THE INPUT: true; the input reads as it did. -/
def rxPartsSpec : ChangeSpec := { name := "rxParts", fn := fun _ => fun
  | [d1, d2, d3, d4] => { results := [.lit (.bool true)], args := [d1, d2, d3, d4] }
  | _ => none }
def rxPartsRow : OpenClaim := { program := "ytofgkildlhcpdaa", sum := "fcbe1911be222dd0c3d92f9e52ebc3e919c3d99bb9b4cce4f79fcf2be443cdf3", func := "snaffle/snafflelaw02.RxParts", spec := "rxParts", inPlace := ["internal/bytealg.IndexByteString"], unfollowed := true, recurses := true, apart := false }
def RxPartsSaid : Prop := rxPartsRow.holds Try.pinned (OpenSpec.ofChange rxPartsSpec)

/-- ITS FALSE NEIGHBOUR: 'it returns false'. Refute it at one input. -/
def rxPartsWrong : ChangeSpec := { name := "rxParts", fn := fun _ => fun
  | [d1, d2, d3, d4] => { results := [.lit (.bool false)], args := [d1, d2, d3, d4] }
  | _ => none }
def RxPartsWrongFalsely : Prop := rxPartsRow.holds Try.pinned (OpenSpec.ofChange rxPartsWrong)

/- THE SECOND FORM. 'bulk': how many values and letters a reading holds, each counted each time it is reached (what is shared counts as often as it is met; a slice's spare places count too). A statement '..UptoSaid' is the law's where the arguments, and the package variables that the reading takes, are together of bulk at most 1048576: NARROWER than '..Said'. Prove '..Said' where nothing that the law and all that it calls make is longer than what came in: it says more and counts as full. Else prove '..UptoSaid'. A law counts once. -/
mutual
def uptoBulk {H : Type} : DataW H → Nat
  | .lit (.string bytes) => bytes.length + 1
  | .lit _ => 1
  | .nil => 1
  | .ptr d => uptoBulk d + 1
  | .slice elems spare => uptoBulkAll elems + uptoBulkAll spare + 1
  | .agg parts => uptoBulkAll parts + 1
  | .iface _ d => uptoBulk d + 1
  | .map entries => uptoBulkEntries entries + 1
  | .held _ => 1
def uptoBulkAll {H : Type} : List (DataW H) → Nat
  | [] => 0
  | d :: r => uptoBulk d + uptoBulkAll r
def uptoBulkEntries {H : Type} : List (Lit × DataW H) → Nat
  | [] => 0
  | x :: r => uptoBulkEntry x + uptoBulkEntries r
def uptoBulkEntry {H : Type} : Lit × DataW H → Nat
  | (.string bytes, d) => bytes.length + uptoBulk d + 1
  | (_, d) => uptoBulk d + 1
 end
def uptoSmall : (H : Type) → List (DataW H) → Bool := fun _ ds => decide (uptoBulkAll ds ≤ 1048576)
def OpenSpec.upto (s : _root_.Go.ChangeSpec) : _root_.Go.OpenSpec := { _root_.Go.OpenSpec.ofChange s with cond := some uptoSmall }

/-- 'snafflelaw03.LangTells', WHERE WHAT IT READS IS OF BULK AT MOST 1048576: true; the input reads as it did. -/
def langTellsUptoRow : OpenClaim := { program := "ytofgkildlhcpdaa", sum := "fcbe1911be222dd0c3d92f9e52ebc3e919c3d99bb9b4cce4f79fcf2be443cdf3", func := "snaffle/snafflelaw03.LangTells", spec := "langTells", recurses := true, apart := false, narrowed := true }
def LangTellsUptoSaid : Prop := langTellsUptoRow.holds Try.pinned (OpenSpec.upto langTellsSpec)

/-- 'snafflelaw03.LangParts', WHERE WHAT IT READS IS OF BULK AT MOST 1048576: true; the input reads as it did. -/
def langPartsUptoRow : OpenClaim := { program := "ytofgkildlhcpdaa", sum := "fcbe1911be222dd0c3d92f9e52ebc3e919c3d99bb9b4cce4f79fcf2be443cdf3", func := "snaffle/snafflelaw03.LangParts", spec := "langParts", recurses := true, apart := false, narrowed := true }
def LangPartsUptoSaid : Prop := langPartsUptoRow.holds Try.pinned (OpenSpec.upto langPartsSpec)

/-- 'snafflelaw09.MaskTells', WHERE WHAT IT READS IS OF BULK AT MOST 1048576: true; the input reads as it did. -/
def maskTellsUptoRow : OpenClaim := { program := "ytofgkildlhcpdaa", sum := "fcbe1911be222dd0c3d92f9e52ebc3e919c3d99bb9b4cce4f79fcf2be443cdf3", func := "snaffle/snafflelaw09.MaskTells", spec := "maskTells", unfollowed := true, recurses := true, apart := false, narrowed := true }
def MaskTellsUptoSaid : Prop := maskTellsUptoRow.holds Try.pinned (OpenSpec.upto maskTellsSpec)

/-- 'snafflelaw09.MaskMore', WHERE WHAT IT READS IS OF BULK AT MOST 1048576: true; the input reads as it did. -/
def maskMoreUptoRow : OpenClaim := { program := "ytofgkildlhcpdaa", sum := "fcbe1911be222dd0c3d92f9e52ebc3e919c3d99bb9b4cce4f79fcf2be443cdf3", func := "snaffle/snafflelaw09.MaskMore", spec := "maskMore", unfollowed := true, recurses := true, apart := false, narrowed := true }
def MaskMoreUptoSaid : Prop := maskMoreUptoRow.holds Try.pinned (OpenSpec.upto maskMoreSpec)

/-- 'snafflelaw02.RxTells', WHERE WHAT IT READS IS OF BULK AT MOST 1048576: true; the input reads as it did. -/
def rxTellsUptoRow : OpenClaim := { program := "ytofgkildlhcpdaa", sum := "fcbe1911be222dd0c3d92f9e52ebc3e919c3d99bb9b4cce4f79fcf2be443cdf3", func := "snaffle/snafflelaw02.RxTells", spec := "rxTells", inPlace := ["internal/bytealg.IndexByteString"], unfollowed := true, recurses := true, apart := false, narrowed := true }
def RxTellsUptoSaid : Prop := rxTellsUptoRow.holds Try.pinned (OpenSpec.upto rxTellsSpec)

/-- 'snafflelaw02.RxParts', WHERE WHAT IT READS IS OF BULK AT MOST 1048576: true; the input reads as it did. -/
def rxPartsUptoRow : OpenClaim := { program := "ytofgkildlhcpdaa", sum := "fcbe1911be222dd0c3d92f9e52ebc3e919c3d99bb9b4cce4f79fcf2be443cdf3", func := "snaffle/snafflelaw02.RxParts", spec := "rxParts", inPlace := ["internal/bytealg.IndexByteString"], unfollowed := true, recurses := true, apart := false, narrowed := true }
def RxPartsUptoSaid : Prop := rxPartsUptoRow.holds Try.pinned (OpenSpec.upto rxPartsSpec)

end Rows
end Go.Proofs.Ytofgkildlhcpdaa
