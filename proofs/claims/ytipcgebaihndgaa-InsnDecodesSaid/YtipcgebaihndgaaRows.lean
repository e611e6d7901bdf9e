/-
  No cell of these rows narrows 'for every input' (looked for: loops, veiled, ifaces, maps, wideKeys, modest, calm, conditions, laid).
  DERIVED. THE GIVEN ROWS OF THIS SEAT. 4 by the template 'for every input the law returns true; each argument reads behind the call as it read before'; 0 by the template 'total and deterministic' (their statements: YtipcgebaihndgaaTotals.lean).
  GIVEN WITH THE SEED: the statements are not yours to turn. If you find one false, say at which input.
  Laid BY PROGRAM, IN A SANDBOX (cutbox-rows.mjs): the forced cells as the released guide's own fill.sh prints them over the translation 3f4ca58b586798ee… (all of the seat's roots in one cut). By AI agents, Wed Nov 11 2026. No macro, syntax, notation, axiom, sorry.
-/
import Derived.Test.YtipcgebaihndgaaChecked
import GoSem.Claim
import GoSem.ClaimJoined
import GoSem.ClaimMapViews
import Derived.JoinedTies
import Derived.KernelRfl
namespace Go.Proofs.Ytipcgebaihndgaa
/- THE CELL 'sum', in the pinned program and in every row, IS THE sha256 OF THE DUMP (.gsa) THAT YtipcgebaihndgaaProg.lean LOADS. Nothing in Lean hashes anything: it is a label: what it is worth is what the hold of that sum in a sandbox is worth. -/
noncomputable def Try.pinned : Pinned := { name := "ytipcgebaihndgaa", sum := "3f4ca58b586798ee1766af56cb49956ebc9c2542e80ba39bbf5aaebc56964122", checked := Try.checked }
namespace Rows
def none {H : Type} : Left H := { results := [], args := [] }

/-- 'tipstafflaw04.InsnJoins': WHATEVER THE INPUT: true; the input reads as it did. -/
def insnJoinsSpec : ChangeSpec := { name := "insnJoins", fn := fun _ => fun
  | [d1, d2] => { results := [.lit (.bool true)], args := [d1, d2] }
  | _ => none }
def insnJoinsRow : OpenClaim := { program := "ytipcgebaihndgaa", sum := "3f4ca58b586798ee1766af56cb49956ebc9c2542e80ba39bbf5aaebc56964122", func := "tipstaff/tipstafflaw04.InsnJoins", spec := "insnJoins", apart := false }
def InsnJoinsSaid : Prop := insnJoinsRow.holds Try.pinned (OpenSpec.ofChange insnJoinsSpec)

/-- ITS FALSE NEIGHBOUR: 'it returns false'. Refute it at one input. -/
def insnJoinsWrong : ChangeSpec := { name := "insnJoins", fn := fun _ => fun
  | [d1, d2] => { results := [.lit (.bool false)], args := [d1, d2] }
  | _ => none }
def InsnJoinsWrongFalsely : Prop := insnJoinsRow.holds Try.pinned (OpenSpec.ofChange insnJoinsWrong)

/-- 'tipstafflaw04.InsnEncodes': WHATEVER THE INPUT: true; the input reads as it did. -/
def insnEncodesSpec : ChangeSpec := { name := "insnEncodes", fn := fun _ => fun
  | [d] => { results := [.lit (.bool true)], args := [d] }
  | _ => none }
def insnEncodesRow : OpenClaim := { program := "ytipcgebaihndgaa", sum := "3f4ca58b586798ee1766af56cb49956ebc9c2542e80ba39bbf5aaebc56964122", func := "tipstaff/tipstafflaw04.InsnEncodes", spec := "insnEncodes", unfollowed := true, recurses := true, apart := false }
def InsnEncodesSaid : Prop := insnEncodesRow.holds Try.pinned (OpenSpec.ofChange insnEncodesSpec)

/-- ITS FALSE NEIGHBOUR: 'it returns false'. Refute it at one input. -/
def insnEncodesWrong : ChangeSpec := { name := "insnEncodes", fn := fun _ => fun
  | [d] => { results := [.lit (.bool false)], args := [d] }
  | _ => none }
def InsnEncodesWrongFalsely : Prop := insnEncodesRow.holds Try.pinned (OpenSpec.ofChange insnEncodesWrong)

/-- 'tipstafflaw04.InsnDecodes': WHATEVER THE INPUT: true; the input reads as it did. -/
def insnDecodesSpec : ChangeSpec := { name := "insnDecodes", fn := fun _ => fun
  | [d1, d2] => { results := [.lit (.bool true)], args := [d1, d2] }
  | _ => none }
def insnDecodesRow : OpenClaim := { program := "ytipcgebaihndgaa", sum := "3f4ca58b586798ee1766af56cb49956ebc9c2542e80ba39bbf5aaebc56964122", func := "tipstaff/tipstafflaw04.InsnDecodes", spec := "insnDecodes", unfollowed := true, recurses := true, apart := false }
def InsnDecodesSaid : Prop := insnDecodesRow.holds Try.pinned (OpenSpec.ofChange insnDecodesSpec)

/-- ITS FALSE NEIGHBOUR: 'it returns false'. Refute it at one input. -/
def insnDecodesWrong : ChangeSpec := { name := "insnDecodes", fn := fun _ => fun
  | [d1, d2] => { results := [.lit (.bool false)], args := [d1, d2] }
  | _ => none }
def InsnDecodesWrongFalsely : Prop := insnDecodesRow.holds Try.pinned (OpenSpec.ofChange insnDecodesWrong)

/-- 'tipstafflaw04.InsnOnes': WHATEVER THE INPUT: true; the input reads as it did. -/
def insnOnesSpec : ChangeSpec := { name := "insnOnes", fn := fun _ => fun
  | [d] => { results := [.lit (.bool true)], args := [d] }
  | _ => none }
def insnOnesRow : OpenClaim := { program := "ytipcgebaihndgaa", sum := "3f4ca58b586798ee1766af56cb49956ebc9c2542e80ba39bbf5aaebc56964122", func := "tipstaff/tipstafflaw04.InsnOnes", spec := "insnOnes", unfollowed := true, recurses := true, apart := false }
def InsnOnesSaid : Prop := insnOnesRow.holds Try.pinned (OpenSpec.ofChange insnOnesSpec)

/-- ITS FALSE NEIGHBOUR: 'it returns false'. Refute it at one input. -/
def insnOnesWrong : ChangeSpec := { name := "insnOnes", fn := fun _ => fun
  | [d] => { results := [.lit (.bool false)], args := [d] }
  | _ => none }
def InsnOnesWrongFalsely : Prop := insnOnesRow.holds Try.pinned (OpenSpec.ofChange insnOnesWrong)

/- THE SECOND FORM. 'bulk': how many values and letters a reading holds, each counted each time it is reached (what is shared counts as often as it is met; a slice's spare places count too). A statement '..UptoSaid' is the law's where the arguments, and the package variables that the reading takes, are together of bulk at most 1048576: NARROWER than '..Said'. Prove '..Said' where nothing that the law and all that it calls make is longer than what came in: it says more and counts as full. Else prove '..UptoSaid'. A law counts once. -/
mutual
def uptoBulk {H : Type} : DataW H → Nat
  | .lit (.string bytes) => bytes.length + 1
  | .lit _ => 1
  | .nil => 1
  | .ptr d => uptoBulk d + 1
  | .slice elems spare => uptoBulkAll elems + uptoBulkAll spare + 1
  | .agg parts => uptoBulkAll parts + 1
  | .iface _ d => uptoBulk d + 1
  | .map entries => uptoBulkEntries entries + 1
  | .held _ => 1
def uptoBulkAll {H : Type} : List (DataW H) → Nat
  | [] => 0
  | d :: r => uptoBulk d + uptoBulkAll r
def uptoBulkEntries {H : Type} : List (Lit × DataW H) → Nat
  | [] => 0
  | x :: r => uptoBulkEntry x + uptoBulkEntries r
def uptoBulkEntry {H : Type} : Lit × DataW H → Nat
  | (.string bytes, d) => bytes.length + uptoBulk d + 1
  | (_, d) => uptoBulk d + 1
 end
def uptoSmall : (H : Type) → List (DataW H) → Bool := fun _ ds => decide (uptoBulkAll ds ≤ 1048576)
def OpenSpec.upto (s : _root_.Go.ChangeSpec) : _root_.Go.OpenSpec := { _root_.Go.OpenSpec.ofChange s with cond := some uptoSmall }

/-- 'tipstafflaw04.InsnJoins', WHERE WHAT IT READS IS OF BULK AT MOST 1048576: true; the input reads as it did. -/
def insnJoinsUptoRow : OpenClaim := { program := "ytipcgebaihndgaa", sum := "3f4ca58b586798ee1766af56cb49956ebc9c2542e80ba39bbf5aaebc56964122", func := "tipstaff/tipstafflaw04.InsnJoins", spec := "insnJoins", apart := false, narrowed := true }
def InsnJoinsUptoSaid : Prop := insnJoinsUptoRow.holds Try.pinned (OpenSpec.upto insnJoinsSpec)

/-- 'tipstafflaw04.InsnEncodes', WHERE WHAT IT READS IS OF BULK AT MOST 1048576: true; the input reads as it did. -/
def insnEncodesUptoRow : OpenClaim := { program := "ytipcgebaihndgaa", sum := "3f4ca58b586798ee1766af56cb49956ebc9c2542e80ba39bbf5aaebc56964122", func := "tipstaff/tipstafflaw04.InsnEncodes", spec := "insnEncodes", unfollowed := true, recurses := true, apart := false, narrowed := true }
def InsnEncodesUptoSaid : Prop := insnEncodesUptoRow.holds Try.pinned (OpenSpec.upto insnEncodesSpec)

/-- 'tipstafflaw04.InsnDecodes', WHERE WHAT IT READS IS OF BULK AT MOST 1048576: true; the input reads as it did. -/
def insnDecodesUptoRow : OpenClaim := { program := "ytipcgebaihndgaa", sum := "3f4ca58b586798ee1766af56cb49956ebc9c2542e80ba39bbf5aaebc56964122", func := "tipstaff/tipstafflaw04.InsnDecodes", spec := "insnDecodes", unfollowed := true, recurses := true, apart := false, narrowed := true }
def InsnDecodesUptoSaid : Prop := insnDecodesUptoRow.holds Try.pinned (OpenSpec.upto insnDecodesSpec)

/-- 'tipstafflaw04.InsnOnes', WHERE WHAT IT READS IS OF BULK AT MOST 1048576: true; the input reads as it did. -/
def insnOnesUptoRow : OpenClaim := { program := "ytipcgebaihndgaa", sum := "3f4ca58b586798ee1766af56cb49956ebc9c2542e80ba39bbf5aaebc56964122", func := "tipstaff/tipstafflaw04.InsnOnes", spec := "insnOnes", unfollowed := true, recurses := true, apart := false, narrowed := true }
def InsnOnesUptoSaid : Prop := insnOnesUptoRow.holds Try.pinned (OpenSpec.upto insnOnesSpec)

end Rows
end Go.Proofs.Ytipcgebaihndgaa
