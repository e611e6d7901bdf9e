/-
  No cell of these rows narrows 'for every input' (looked for: loops, veiled, ifaces, maps, wideKeys, modest, calm, conditions, laid).
  DERIVED. THE GIVEN ROWS OF THIS SEAT. 3 by the template 'for every input the law returns true; each argument reads behind the call as it read before'; 0 by the template 'total and deterministic' (their statements: YtkpckjkjlhaglaaTotals.lean).
  GIVEN WITH THE SEED: the statements are not yours to turn. If you find one false, say at which input.
  Laid BY PROGRAM, IN A SANDBOX (cutbox-rows.mjs): the forced cells as the released guide's own fill.sh prints them over the translation 338226cb70049a7a… (all of the seat's roots in one cut). By AI agents, Wed Nov 11 2026. No macro, syntax, notation, axiom, sorry.
-/
import Derived.Test.YtkpckjkjlhaglaaChecked
import GoSem.Claim
import GoSem.ClaimJoined
import GoSem.ClaimMapViews
import Derived.JoinedTies
import Derived.KernelRfl
namespace Go.Proofs.Ytkpckjkjlhaglaa
/- THE CELL 'sum', in the pinned program and in every row, IS THE sha256 OF THE DUMP (.gsa) THAT YtkpckjkjlhaglaaProg.lean LOADS. Nothing in Lean hashes anything: it is a label: what it is worth is what the hold of that sum in a sandbox is worth. -/
noncomputable def Try.pinned : Pinned := { name := "ytkpckjkjlhaglaa", sum := "338226cb70049a7a878bd6c630e6550b6b0834347a971584e9246df10bd74fa9", checked := Try.checked }
namespace Rows
def none {H : Type} : Left H := { results := [], args := [] }

/-- 'tipstafflaw06.CanonMany': WHATEVER THE INPUT: true; the input reads as it did. -/
def canonManySpec : ChangeSpec := { name := "canonMany", fn := fun _ => fun
  | [d1, d2] => { results := [.lit (.bool true)], args := [d1, d2] }
  | _ => none }
def canonManyRow : OpenClaim := { program := "ytkpckjkjlhaglaa", sum := "338226cb70049a7a878bd6c630e6550b6b0834347a971584e9246df10bd74fa9", func := "tipstaff/tipstafflaw06.CanonMany", spec := "canonMany", apart := false }
def CanonManySaid : Prop := canonManyRow.holds Try.pinned (OpenSpec.ofChange canonManySpec)

/-- ITS FALSE NEIGHBOUR: 'it returns false'. Refute it at one input. -/
def canonManyWrong : ChangeSpec := { name := "canonMany", fn := fun _ => fun
  | [d1, d2] => { results := [.lit (.bool false)], args := [d1, d2] }
  | _ => none }
def CanonManyWrongFalsely : Prop := canonManyRow.holds Try.pinned (OpenSpec.ofChange canonManyWrong)

/-- 'tipstafflaw06.CanonSlots': WHATEVER THE INPUT: true; the input reads as it did. -/
def canonSlotsSpec : ChangeSpec := { name := "canonSlots", fn := fun _ => fun
  | [d] => { results := [.lit (.bool true)], args := [d] }
  | _ => none }
def canonSlotsRow : OpenClaim := { program := "ytkpckjkjlhaglaa", sum := "338226cb70049a7a878bd6c630e6550b6b0834347a971584e9246df10bd74fa9", func := "tipstaff/tipstafflaw06.CanonSlots", spec := "canonSlots", apart := false }
def CanonSlotsSaid : Prop := canonSlotsRow.holds Try.pinned (OpenSpec.ofChange canonSlotsSpec)

/-- ITS FALSE NEIGHBOUR: 'it returns false'. Refute it at one input. -/
def canonSlotsWrong : ChangeSpec := { name := "canonSlots", fn := fun _ => fun
  | [d] => { results := [.lit (.bool false)], args := [d] }
  | _ => none }
def CanonSlotsWrongFalsely : Prop := canonSlotsRow.holds Try.pinned (OpenSpec.ofChange canonSlotsWrong)

/-- 'tipstafflaw06.CanonBacks': WHATEVER THE INPUT: true; the input reads as it did. -/
def canonBacksSpec : ChangeSpec := { name := "canonBacks", fn := fun _ => fun
  | [d1, d2] => { results := [.lit (.bool true)], args := [d1, d2] }
  | _ => none }
def canonBacksRow : OpenClaim := { program := "ytkpckjkjlhaglaa", sum := "338226cb70049a7a878bd6c630e6550b6b0834347a971584e9246df10bd74fa9", func := "tipstaff/tipstafflaw06.CanonBacks", spec := "canonBacks", apart := false }
def CanonBacksSaid : Prop := canonBacksRow.holds Try.pinned (OpenSpec.ofChange canonBacksSpec)

/-- ITS FALSE NEIGHBOUR: 'it returns false'. Refute it at one input. -/
def canonBacksWrong : ChangeSpec := { name := "canonBacks", fn := fun _ => fun
  | [d1, d2] => { results := [.lit (.bool false)], args := [d1, d2] }
  | _ => none }
def CanonBacksWrongFalsely : Prop := canonBacksRow.holds Try.pinned (OpenSpec.ofChange canonBacksWrong)

/- THE SECOND FORM. 'bulk': how many values and letters a reading holds, each counted each time it is reached (what is shared counts as often as it is met; a slice's spare places count too). A statement '..UptoSaid' is the law's where the arguments, and the package variables that the reading takes, are together of bulk at most 1048576: NARROWER than '..Said'. Prove '..Said' where nothing that the law and all that it calls make is longer than what came in: it says more and counts as full. Else prove '..UptoSaid'. A law counts once. -/
mutual
def uptoBulk {H : Type} : DataW H → Nat
  | .lit (.string bytes) => bytes.length + 1
  | .lit _ => 1
  | .nil => 1
  | .ptr d => uptoBulk d + 1
  | .slice elems spare => uptoBulkAll elems + uptoBulkAll spare + 1
  | .agg parts => uptoBulkAll parts + 1
  | .iface _ d => uptoBulk d + 1
  | .map entries => uptoBulkEntries entries + 1
  | .held _ => 1
def uptoBulkAll {H : Type} : List (DataW H) → Nat
  | [] => 0
  | d :: r => uptoBulk d + uptoBulkAll r
def uptoBulkEntries {H : Type} : List (Lit × DataW H) → Nat
  | [] => 0
  | x :: r => uptoBulkEntry x + uptoBulkEntries r
def uptoBulkEntry {H : Type} : Lit × DataW H → Nat
  | (.string bytes, d) => bytes.length + uptoBulk d + 1
  | (_, d) => uptoBulk d + 1
 end
def uptoSmall : (H : Type) → List (DataW H) → Bool := fun _ ds => decide (uptoBulkAll ds ≤ 1048576)
def OpenSpec.upto (s : _root_.Go.ChangeSpec) : _root_.Go.OpenSpec := { _root_.Go.OpenSpec.ofChange s with cond := some uptoSmall }

/-- 'tipstafflaw06.CanonMany', WHERE WHAT IT READS IS OF BULK AT MOST 1048576: true; the input reads as it did. -/
def canonManyUptoRow : OpenClaim := { program := "ytkpckjkjlhaglaa", sum := "338226cb70049a7a878bd6c630e6550b6b0834347a971584e9246df10bd74fa9", func := "tipstaff/tipstafflaw06.CanonMany", spec := "canonMany", apart := false, narrowed := true }
def CanonManyUptoSaid : Prop := canonManyUptoRow.holds Try.pinned (OpenSpec.upto canonManySpec)

/-- 'tipstafflaw06.CanonSlots', WHERE WHAT IT READS IS OF BULK AT MOST 1048576: true; the input reads as it did. -/
def canonSlotsUptoRow : OpenClaim := { program := "ytkpckjkjlhaglaa", sum := "338226cb70049a7a878bd6c630e6550b6b0834347a971584e9246df10bd74fa9", func := "tipstaff/tipstafflaw06.CanonSlots", spec := "canonSlots", apart := false, narrowed := true }
def CanonSlotsUptoSaid : Prop := canonSlotsUptoRow.holds Try.pinned (OpenSpec.upto canonSlotsSpec)

/-- 'tipstafflaw06.CanonBacks', WHERE WHAT IT READS IS OF BULK AT MOST 1048576: true; the input reads as it did. -/
def canonBacksUptoRow : OpenClaim := { program := "ytkpckjkjlhaglaa", sum := "338226cb70049a7a878bd6c630e6550b6b0834347a971584e9246df10bd74fa9", func := "tipstaff/tipstafflaw06.CanonBacks", spec := "canonBacks", apart := false, narrowed := true }
def CanonBacksUptoSaid : Prop := canonBacksUptoRow.holds Try.pinned (OpenSpec.upto canonBacksSpec)

end Rows
end Go.Proofs.Ytkpckjkjlhaglaa
