/-
  No cell of these rows narrows 'for every input' (looked for: loops, veiled, ifaces, maps, wideKeys, modest, calm, conditions, laid).
  DERIVED. THE GIVEN ROWS OF THIS SEAT. 5 by the template 'for every input the law returns true; each argument reads behind the call as it read before'; 0 by the template 'total and deterministic' (their statements: YtoliimnmgppkjaaTotals.lean).
  GIVEN WITH THE SEED: the statements are not yours to turn. If you find one false, say at which input.
  Laid BY PROGRAM, IN A SANDBOX (cutbox-rows.mjs): the forced cells as the released guide's own fill.sh prints them over the translation 357f5c3555276e12… (all of the seat's roots in one cut). By AI agents, Wed Nov 11 2026. No macro, syntax, notation, axiom, sorry.
-/
import Derived.Test.YtoliimnmgppkjaaChecked
import GoSem.Claim
import GoSem.ClaimJoined
import GoSem.ClaimMapViews
import Derived.JoinedTies
import Derived.KernelRfl
namespace Go.Proofs.Ytoliimnmgppkjaa
/- THE CELL 'sum', in the pinned program and in every row, IS THE sha256 OF THE DUMP (.gsa) THAT YtoliimnmgppkjaaProg.lean LOADS. Nothing in Lean hashes anything: it is a label: what it is worth is what the hold of that sum in a sandbox is worth. -/
noncomputable def Try.pinned : Pinned := { name := "ytoliimnmgppkjaa", sum := "357f5c3555276e125ba821aa03786faef38c5dffdd814cdc801e47a1e60f3f87", checked := Try.checked }
namespace Rows
def none {H : Type} : Left H := { results := [], args := [] }

/-- 'tipstafflaw05.ShapeChecks': WHATEVER THE INPUT: true; the input reads as it did. -/
def shapeChecksSpec : ChangeSpec := { name := "shapeChecks", fn := fun _ => fun
  | [d1, d2] => { results := [.lit (.bool true)], args := [d1, d2] }
  | _ => none }
def shapeChecksRow : OpenClaim := { program := "ytoliimnmgppkjaa", sum := "357f5c3555276e125ba821aa03786faef38c5dffdd814cdc801e47a1e60f3f87", func := "tipstaff/tipstafflaw05.ShapeChecks", spec := "shapeChecks", apart := false }
def ShapeChecksSaid : Prop := shapeChecksRow.holds Try.pinned (OpenSpec.ofChange shapeChecksSpec)

/-- ITS FALSE NEIGHBOUR: 'it returns false'. Refute it at one input. -/
def shapeChecksWrong : ChangeSpec := { name := "shapeChecks", fn := fun _ => fun
  | [d1, d2] => { results := [.lit (.bool false)], args := [d1, d2] }
  | _ => none }
def ShapeChecksWrongFalsely : Prop := shapeChecksRow.holds Try.pinned (OpenSpec.ofChange shapeChecksWrong)

/-- 'tipstafflaw05.ShapeBents': WHATEVER THE INPUT: true; the input reads as it did. -/
def shapeBentsSpec : ChangeSpec := { name := "shapeBents", fn := fun _ => fun
  | [d1, d2, d3] => { results := [.lit (.bool true)], args := [d1, d2, d3] }
  | _ => none }
def shapeBentsRow : OpenClaim := { program := "ytoliimnmgppkjaa", sum := "357f5c3555276e125ba821aa03786faef38c5dffdd814cdc801e47a1e60f3f87", func := "tipstaff/tipstafflaw05.ShapeBents", spec := "shapeBents", apart := false }
def ShapeBentsSaid : Prop := shapeBentsRow.holds Try.pinned (OpenSpec.ofChange shapeBentsSpec)

/-- ITS FALSE NEIGHBOUR: 'it returns false'. Refute it at one input. -/
def shapeBentsWrong : ChangeSpec := { name := "shapeBents", fn := fun _ => fun
  | [d1, d2, d3] => { results := [.lit (.bool false)], args := [d1, d2, d3] }
  | _ => none }
def ShapeBentsWrongFalsely : Prop := shapeBentsRow.holds Try.pinned (OpenSpec.ofChange shapeBentsWrong)

/-- 'tipstafflaw05.ShapeTells': WHATEVER THE INPUT: true; the input reads as it did. -/
def shapeTellsSpec : ChangeSpec := { name := "shapeTells", fn := fun _ => fun
  | [d1, d2, d3] => { results := [.lit (.bool true)], args := [d1, d2, d3] }
  | _ => none }
def shapeTellsRow : OpenClaim := { program := "ytoliimnmgppkjaa", sum := "357f5c3555276e125ba821aa03786faef38c5dffdd814cdc801e47a1e60f3f87", func := "tipstaff/tipstafflaw05.ShapeTells", spec := "shapeTells", apart := false }
def ShapeTellsSaid : Prop := shapeTellsRow.holds Try.pinned (OpenSpec.ofChange shapeTellsSpec)

/-- ITS FALSE NEIGHBOUR: 'it returns false'. Refute it at one input. -/
def shapeTellsWrong : ChangeSpec := { name := "shapeTells", fn := fun _ => fun
  | [d1, d2, d3] => { results := [.lit (.bool false)], args := [d1, d2, d3] }
  | _ => none }
def ShapeTellsWrongFalsely : Prop := shapeTellsRow.holds Try.pinned (OpenSpec.ofChange shapeTellsWrong)

/-- 'tipstafflaw05.ShapeLongs': WHATEVER THE INPUT: true; the input reads as it did. -/
def shapeLongsSpec : ChangeSpec := { name := "shapeLongs", fn := fun _ => fun
  | [d] => { results := [.lit (.bool true)], args := [d] }
  | _ => none }
def shapeLongsRow : OpenClaim := { program := "ytoliimnmgppkjaa", sum := "357f5c3555276e125ba821aa03786faef38c5dffdd814cdc801e47a1e60f3f87", func := "tipstaff/tipstafflaw05.ShapeLongs", spec := "shapeLongs", apart := false }
def ShapeLongsSaid : Prop := shapeLongsRow.holds Try.pinned (OpenSpec.ofChange shapeLongsSpec)

/-- ITS FALSE NEIGHBOUR: 'it returns false'. Refute it at one input. -/
def shapeLongsWrong : ChangeSpec := { name := "shapeLongs", fn := fun _ => fun
  | [d] => { results := [.lit (.bool false)], args := [d] }
  | _ => none }
def ShapeLongsWrongFalsely : Prop := shapeLongsRow.holds Try.pinned (OpenSpec.ofChange shapeLongsWrong)

/-- 'tipstafflaw05.ShapeJumps': WHATEVER THE INPUT: true; the input reads as it did. -/
def shapeJumpsSpec : ChangeSpec := { name := "shapeJumps", fn := fun _ => fun
  | [d] => { results := [.lit (.bool true)], args := [d] }
  | _ => none }
def shapeJumpsRow : OpenClaim := { program := "ytoliimnmgppkjaa", sum := "357f5c3555276e125ba821aa03786faef38c5dffdd814cdc801e47a1e60f3f87", func := "tipstaff/tipstafflaw05.ShapeJumps", spec := "shapeJumps", apart := false }
def ShapeJumpsSaid : Prop := shapeJumpsRow.holds Try.pinned (OpenSpec.ofChange shapeJumpsSpec)

/-- ITS FALSE NEIGHBOUR: 'it returns false'. Refute it at one input. -/
def shapeJumpsWrong : ChangeSpec := { name := "shapeJumps", fn := fun _ => fun
  | [d] => { results := [.lit (.bool false)], args := [d] }
  | _ => none }
def ShapeJumpsWrongFalsely : Prop := shapeJumpsRow.holds Try.pinned (OpenSpec.ofChange shapeJumpsWrong)

/- THE SECOND FORM. 'bulk': how many values and letters a reading holds, each counted each time it is reached (what is shared counts as often as it is met; a slice's spare places count too). A statement '..UptoSaid' is the law's where the arguments, and the package variables that the reading takes, are together of bulk at most 1048576: NARROWER than '..Said'. Prove '..Said' where nothing that the law and all that it calls make is longer than what came in: it says more and counts as full. Else prove '..UptoSaid'. A law counts once. -/
mutual
def uptoBulk {H : Type} : DataW H → Nat
  | .lit (.string bytes) => bytes.length + 1
  | .lit _ => 1
  | .nil => 1
  | .ptr d => uptoBulk d + 1
  | .slice elems spare => uptoBulkAll elems + uptoBulkAll spare + 1
  | .agg parts => uptoBulkAll parts + 1
  | .iface _ d => uptoBulk d + 1
  | .map entries => uptoBulkEntries entries + 1
  | .held _ => 1
def uptoBulkAll {H : Type} : List (DataW H) → Nat
  | [] => 0
  | d :: r => uptoBulk d + uptoBulkAll r
def uptoBulkEntries {H : Type} : List (Lit × DataW H) → Nat
  | [] => 0
  | x :: r => uptoBulkEntry x + uptoBulkEntries r
def uptoBulkEntry {H : Type} : Lit × DataW H → Nat
  | (.string bytes, d) => bytes.length + uptoBulk d + 1
  | (_, d) => uptoBulk d + 1
 end
def uptoSmall : (H : Type) → List (DataW H) → Bool := fun _ ds => decide (uptoBulkAll ds ≤ 1048576)
def OpenSpec.upto (s : _root_.Go.ChangeSpec) : _root_.Go.OpenSpec := { _root_.Go.OpenSpec.ofChange s with cond := some uptoSmall }

/-- 'tipstafflaw05.ShapeChecks', WHERE WHAT IT READS IS OF BULK AT MOST 1048576: true; the input reads as it did. -/
def shapeChecksUptoRow : OpenClaim := { program := "ytoliimnmgppkjaa", sum := "357f5c3555276e125ba821aa03786faef38c5dffdd814cdc801e47a1e60f3f87", func := "tipstaff/tipstafflaw05.ShapeChecks", spec := "shapeChecks", apart := false, narrowed := true }
def ShapeChecksUptoSaid : Prop := shapeChecksUptoRow.holds Try.pinned (OpenSpec.upto shapeChecksSpec)

/-- 'tipstafflaw05.ShapeBents', WHERE WHAT IT READS IS OF BULK AT MOST 1048576: true; the input reads as it did. -/
def shapeBentsUptoRow : OpenClaim := { program := "ytoliimnmgppkjaa", sum := "357f5c3555276e125ba821aa03786faef38c5dffdd814cdc801e47a1e60f3f87", func := "tipstaff/tipstafflaw05.ShapeBents", spec := "shapeBents", apart := false, narrowed := true }
def ShapeBentsUptoSaid : Prop := shapeBentsUptoRow.holds Try.pinned (OpenSpec.upto shapeBentsSpec)

/-- 'tipstafflaw05.ShapeTells', WHERE WHAT IT READS IS OF BULK AT MOST 1048576: true; the input reads as it did. -/
def shapeTellsUptoRow : OpenClaim := { program := "ytoliimnmgppkjaa", sum := "357f5c3555276e125ba821aa03786faef38c5dffdd814cdc801e47a1e60f3f87", func := "tipstaff/tipstafflaw05.ShapeTells", spec := "shapeTells", apart := false, narrowed := true }
def ShapeTellsUptoSaid : Prop := shapeTellsUptoRow.holds Try.pinned (OpenSpec.upto shapeTellsSpec)

/-- 'tipstafflaw05.ShapeLongs', WHERE WHAT IT READS IS OF BULK AT MOST 1048576: true; the input reads as it did. -/
def shapeLongsUptoRow : OpenClaim := { program := "ytoliimnmgppkjaa", sum := "357f5c3555276e125ba821aa03786faef38c5dffdd814cdc801e47a1e60f3f87", func := "tipstaff/tipstafflaw05.ShapeLongs", spec := "shapeLongs", apart := false, narrowed := true }
def ShapeLongsUptoSaid : Prop := shapeLongsUptoRow.holds Try.pinned (OpenSpec.upto shapeLongsSpec)

/-- 'tipstafflaw05.ShapeJumps', WHERE WHAT IT READS IS OF BULK AT MOST 1048576: true; the input reads as it did. -/
def shapeJumpsUptoRow : OpenClaim := { program := "ytoliimnmgppkjaa", sum := "357f5c3555276e125ba821aa03786faef38c5dffdd814cdc801e47a1e60f3f87", func := "tipstaff/tipstafflaw05.ShapeJumps", spec := "shapeJumps", apart := false, narrowed := true }
def ShapeJumpsUptoSaid : Prop := shapeJumpsUptoRow.holds Try.pinned (OpenSpec.upto shapeJumpsSpec)

end Rows
end Go.Proofs.Ytoliimnmgppkjaa
