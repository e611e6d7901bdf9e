/-
  No cell of these rows narrows 'for every input' (looked for: loops, veiled, ifaces, maps, wideKeys, modest, calm, conditions, laid).
  DERIVED. THE GIVEN ROWS OF THIS SEAT. 6 by the template 'for every input the law returns true; each argument reads behind the call as it read before'; 0 by the template 'total and deterministic' (their statements: YtlfidgfdpoeplaaTotals.lean).
  GIVEN WITH THE SEED: the statements are not yours to turn. If you find one false, say at which input.
  Laid BY PROGRAM, IN A SANDBOX (cutbox-rows.mjs): the forced cells as the released guide's own fill.sh prints them over the translation 1ea8674c3817e8fd… (all of the seat's roots in one cut). By AI agents, Wed Nov 11 2026. No macro, syntax, notation, axiom, sorry.
-/
import Derived.Test.YtlfidgfdpoeplaaChecked
import GoSem.Claim
import GoSem.ClaimJoined
import GoSem.ClaimMapViews
import Derived.JoinedTies
import Derived.KernelRfl
namespace Go.Proofs.Ytlfidgfdpoeplaa
/- THE CELL 'sum', in the pinned program and in every row, IS THE sha256 OF THE DUMP (.gsa) THAT YtlfidgfdpoeplaaProg.lean LOADS. Nothing in Lean hashes anything: it is a label: what it is worth is what the hold of that sum in a sandbox is worth. -/
noncomputable def Try.pinned : Pinned := { name := "ytlfidgfdpoeplaa", sum := "1ea8674c3817e8fddedf21f14fe4f3e47a35051d3a5b0794e1212031e8061f3e", checked := Try.checked }
namespace Rows
def none {H : Type} : Left H := { results := [], args := [] }

/-- 'tipstafflaw10.SpaceInside': WHATEVER THE INPUT: true; the input reads as it did. -/
def spaceInsideSpec : ChangeSpec := { name := "spaceInside", fn := fun _ => fun
  | [d1, d2] => { results := [.lit (.bool true)], args := [d1, d2] }
  | _ => none }
def spaceInsideRow : OpenClaim := { program := "ytlfidgfdpoeplaa", sum := "1ea8674c3817e8fddedf21f14fe4f3e47a35051d3a5b0794e1212031e8061f3e", func := "tipstaff/tipstafflaw10.SpaceInside", spec := "spaceInside", apart := false }
def SpaceInsideSaid : Prop := spaceInsideRow.holds Try.pinned (OpenSpec.ofChange spaceInsideSpec)

/-- ITS FALSE NEIGHBOUR: 'it returns false'. Refute it at one input. -/
def spaceInsideWrong : ChangeSpec := { name := "spaceInside", fn := fun _ => fun
  | [d1, d2] => { results := [.lit (.bool false)], args := [d1, d2] }
  | _ => none }
def SpaceInsideWrongFalsely : Prop := spaceInsideRow.holds Try.pinned (OpenSpec.ofChange spaceInsideWrong)

/-- 'tipstafflaw08.FdtabFull': WHATEVER THE INPUT: true; the input reads as it did. -/
def fdtabFullSpec : ChangeSpec := { name := "fdtabFull", fn := fun _ => fun
  | [d1, d2] => { results := [.lit (.bool true)], args := [d1, d2] }
  | _ => none }
def fdtabFullRow : OpenClaim := { program := "ytlfidgfdpoeplaa", sum := "1ea8674c3817e8fddedf21f14fe4f3e47a35051d3a5b0794e1212031e8061f3e", func := "tipstaff/tipstafflaw08.FdtabFull", spec := "fdtabFull", apart := false }
def FdtabFullSaid : Prop := fdtabFullRow.holds Try.pinned (OpenSpec.ofChange fdtabFullSpec)

/-- ITS FALSE NEIGHBOUR: 'it returns false'. Refute it at one input. -/
def fdtabFullWrong : ChangeSpec := { name := "fdtabFull", fn := fun _ => fun
  | [d1, d2] => { results := [.lit (.bool false)], args := [d1, d2] }
  | _ => none }
def FdtabFullWrongFalsely : Prop := fdtabFullRow.holds Try.pinned (OpenSpec.ofChange fdtabFullWrong)

/-- 'tipstafflaw08.FdtabRound': WHATEVER THE INPUT: true; the input reads as it did. -/
def fdtabRoundSpec : ChangeSpec := { name := "fdtabRound", fn := fun _ => fun
  | [d1, d2] => { results := [.lit (.bool true)], args := [d1, d2] }
  | _ => none }
def fdtabRoundRow : OpenClaim := { program := "ytlfidgfdpoeplaa", sum := "1ea8674c3817e8fddedf21f14fe4f3e47a35051d3a5b0794e1212031e8061f3e", func := "tipstaff/tipstafflaw08.FdtabRound", spec := "fdtabRound", apart := false }
def FdtabRoundSaid : Prop := fdtabRoundRow.holds Try.pinned (OpenSpec.ofChange fdtabRoundSpec)

/-- ITS FALSE NEIGHBOUR: 'it returns false'. Refute it at one input. -/
def fdtabRoundWrong : ChangeSpec := { name := "fdtabRound", fn := fun _ => fun
  | [d1, d2] => { results := [.lit (.bool false)], args := [d1, d2] }
  | _ => none }
def FdtabRoundWrongFalsely : Prop := fdtabRoundRow.holds Try.pinned (OpenSpec.ofChange fdtabRoundWrong)

/-- 'tipstafflaw10.SpaceMakes': WHATEVER THE INPUT: true; the input reads as it did. -/
def spaceMakesSpec : ChangeSpec := { name := "spaceMakes", fn := fun _ => fun
  | [d1, d2, d3] => { results := [.lit (.bool true)], args := [d1, d2, d3] }
  | _ => none }
def spaceMakesRow : OpenClaim := { program := "ytlfidgfdpoeplaa", sum := "1ea8674c3817e8fddedf21f14fe4f3e47a35051d3a5b0794e1212031e8061f3e", func := "tipstaff/tipstafflaw10.SpaceMakes", spec := "spaceMakes", apart := false }
def SpaceMakesSaid : Prop := spaceMakesRow.holds Try.pinned (OpenSpec.ofChange spaceMakesSpec)

/-- ITS FALSE NEIGHBOUR: 'it returns false'. Refute it at one input. -/
def spaceMakesWrong : ChangeSpec := { name := "spaceMakes", fn := fun _ => fun
  | [d1, d2, d3] => { results := [.lit (.bool false)], args := [d1, d2, d3] }
  | _ => none }
def SpaceMakesWrongFalsely : Prop := spaceMakesRow.holds Try.pinned (OpenSpec.ofChange spaceMakesWrong)

/-- 'tipstafflaw10.SpaceDeep': WHATEVER THE INPUT: true; the input reads as it did. -/
def spaceDeepSpec : ChangeSpec := { name := "spaceDeep", fn := fun _ => fun
  | [d] => { results := [.lit (.bool true)], args := [d] }
  | _ => none }
def spaceDeepRow : OpenClaim := { program := "ytlfidgfdpoeplaa", sum := "1ea8674c3817e8fddedf21f14fe4f3e47a35051d3a5b0794e1212031e8061f3e", func := "tipstaff/tipstafflaw10.SpaceDeep", spec := "spaceDeep", apart := false }
def SpaceDeepSaid : Prop := spaceDeepRow.holds Try.pinned (OpenSpec.ofChange spaceDeepSpec)

/-- ITS FALSE NEIGHBOUR: 'it returns false'. Refute it at one input. -/
def spaceDeepWrong : ChangeSpec := { name := "spaceDeep", fn := fun _ => fun
  | [d] => { results := [.lit (.bool false)], args := [d] }
  | _ => none }
def SpaceDeepWrongFalsely : Prop := spaceDeepRow.holds Try.pinned (OpenSpec.ofChange spaceDeepWrong)

/-- 'tipstafflaw10.SpacePaths': WHATEVER THE INPUT: true; the input reads as it did. -/
def spacePathsSpec : ChangeSpec := { name := "spacePaths", fn := fun _ => fun
  | [d] => { results := [.lit (.bool true)], args := [d] }
  | _ => none }
def spacePathsRow : OpenClaim := { program := "ytlfidgfdpoeplaa", sum := "1ea8674c3817e8fddedf21f14fe4f3e47a35051d3a5b0794e1212031e8061f3e", func := "tipstaff/tipstafflaw10.SpacePaths", spec := "spacePaths", apart := false }
def SpacePathsSaid : Prop := spacePathsRow.holds Try.pinned (OpenSpec.ofChange spacePathsSpec)

/-- ITS FALSE NEIGHBOUR: 'it returns false'. Refute it at one input. -/
def spacePathsWrong : ChangeSpec := { name := "spacePaths", fn := fun _ => fun
  | [d] => { results := [.lit (.bool false)], args := [d] }
  | _ => none }
def SpacePathsWrongFalsely : Prop := spacePathsRow.holds Try.pinned (OpenSpec.ofChange spacePathsWrong)

/- THE SECOND FORM. 'bulk': how many values and letters a reading holds, each counted each time it is reached (what is shared counts as often as it is met; a slice's spare places count too). A statement '..UptoSaid' is the law's where the arguments, and the package variables that the reading takes, are together of bulk at most 1048576: NARROWER than '..Said'. Prove '..Said' where nothing that the law and all that it calls make is longer than what came in: it says more and counts as full. Else prove '..UptoSaid'. A law counts once. -/
mutual
def uptoBulk {H : Type} : DataW H → Nat
  | .lit (.string bytes) => bytes.length + 1
  | .lit _ => 1
  | .nil => 1
  | .ptr d => uptoBulk d + 1
  | .slice elems spare => uptoBulkAll elems + uptoBulkAll spare + 1
  | .agg parts => uptoBulkAll parts + 1
  | .iface _ d => uptoBulk d + 1
  | .map entries => uptoBulkEntries entries + 1
  | .held _ => 1
def uptoBulkAll {H : Type} : List (DataW H) → Nat
  | [] => 0
  | d :: r => uptoBulk d + uptoBulkAll r
def uptoBulkEntries {H : Type} : List (Lit × DataW H) → Nat
  | [] => 0
  | x :: r => uptoBulkEntry x + uptoBulkEntries r
def uptoBulkEntry {H : Type} : Lit × DataW H → Nat
  | (.string bytes, d) => bytes.length + uptoBulk d + 1
  | (_, d) => uptoBulk d + 1
 end
def uptoSmall : (H : Type) → List (DataW H) → Bool := fun _ ds => decide (uptoBulkAll ds ≤ 1048576)
def OpenSpec.upto (s : _root_.Go.ChangeSpec) : _root_.Go.OpenSpec := { _root_.Go.OpenSpec.ofChange s with cond := some uptoSmall }

/-- 'tipstafflaw10.SpaceInside', WHERE WHAT IT READS IS OF BULK AT MOST 1048576: true; the input reads as it did. -/
def spaceInsideUptoRow : OpenClaim := { program := "ytlfidgfdpoeplaa", sum := "1ea8674c3817e8fddedf21f14fe4f3e47a35051d3a5b0794e1212031e8061f3e", func := "tipstaff/tipstafflaw10.SpaceInside", spec := "spaceInside", apart := false, narrowed := true }
def SpaceInsideUptoSaid : Prop := spaceInsideUptoRow.holds Try.pinned (OpenSpec.upto spaceInsideSpec)

/-- 'tipstafflaw08.FdtabFull', WHERE WHAT IT READS IS OF BULK AT MOST 1048576: true; the input reads as it did. -/
def fdtabFullUptoRow : OpenClaim := { program := "ytlfidgfdpoeplaa", sum := "1ea8674c3817e8fddedf21f14fe4f3e47a35051d3a5b0794e1212031e8061f3e", func := "tipstaff/tipstafflaw08.FdtabFull", spec := "fdtabFull", apart := false, narrowed := true }
def FdtabFullUptoSaid : Prop := fdtabFullUptoRow.holds Try.pinned (OpenSpec.upto fdtabFullSpec)

/-- 'tipstafflaw08.FdtabRound', WHERE WHAT IT READS IS OF BULK AT MOST 1048576: true; the input reads as it did. -/
def fdtabRoundUptoRow : OpenClaim := { program := "ytlfidgfdpoeplaa", sum := "1ea8674c3817e8fddedf21f14fe4f3e47a35051d3a5b0794e1212031e8061f3e", func := "tipstaff/tipstafflaw08.FdtabRound", spec := "fdtabRound", apart := false, narrowed := true }
def FdtabRoundUptoSaid : Prop := fdtabRoundUptoRow.holds Try.pinned (OpenSpec.upto fdtabRoundSpec)

/-- 'tipstafflaw10.SpaceMakes', WHERE WHAT IT READS IS OF BULK AT MOST 1048576: true; the input reads as it did. -/
def spaceMakesUptoRow : OpenClaim := { program := "ytlfidgfdpoeplaa", sum := "1ea8674c3817e8fddedf21f14fe4f3e47a35051d3a5b0794e1212031e8061f3e", func := "tipstaff/tipstafflaw10.SpaceMakes", spec := "spaceMakes", apart := false, narrowed := true }
def SpaceMakesUptoSaid : Prop := spaceMakesUptoRow.holds Try.pinned (OpenSpec.upto spaceMakesSpec)

/-- 'tipstafflaw10.SpaceDeep', WHERE WHAT IT READS IS OF BULK AT MOST 1048576: true; the input reads as it did. -/
def spaceDeepUptoRow : OpenClaim := { program := "ytlfidgfdpoeplaa", sum := "1ea8674c3817e8fddedf21f14fe4f3e47a35051d3a5b0794e1212031e8061f3e", func := "tipstaff/tipstafflaw10.SpaceDeep", spec := "spaceDeep", apart := false, narrowed := true }
def SpaceDeepUptoSaid : Prop := spaceDeepUptoRow.holds Try.pinned (OpenSpec.upto spaceDeepSpec)

/-- 'tipstafflaw10.SpacePaths', WHERE WHAT IT READS IS OF BULK AT MOST 1048576: true; the input reads as it did. -/
def spacePathsUptoRow : OpenClaim := { program := "ytlfidgfdpoeplaa", sum := "1ea8674c3817e8fddedf21f14fe4f3e47a35051d3a5b0794e1212031e8061f3e", func := "tipstaff/tipstafflaw10.SpacePaths", spec := "spacePaths", apart := false, narrowed := true }
def SpacePathsUptoSaid : Prop := spacePathsUptoRow.holds Try.pinned (OpenSpec.upto spacePathsSpec)

end Rows
end Go.Proofs.Ytlfidgfdpoeplaa
