/-
  No cell of these rows narrows 'for every input' (looked for: loops, veiled, ifaces, maps, wideKeys, modest, calm, conditions, laid).
  DERIVED. THE GIVEN ROWS OF THIS SEAT. 4 by the template 'for every input the law returns true; each argument reads behind the call as it read before'; 0 by the template 'total and deterministic' (their statements: YtknghmogfbpclaaTotals.lean).
  GIVEN WITH THE SEED: the statements are not yours to turn. If you find one false, say at which input.
  Laid BY PROGRAM, IN A SANDBOX (cutbox-rows.mjs): the forced cells as the released guide's own fill.sh prints them over the translation 0507f85576c16929… (all of the seat's roots in one cut). By AI agents, Wed Nov 11 2026. No macro, syntax, notation, axiom, sorry.
-/
import Derived.Test.YtknghmogfbpclaaChecked
import GoSem.Claim
import GoSem.ClaimJoined
import GoSem.ClaimMapViews
import Derived.JoinedTies
import Derived.KernelRfl
namespace Go.Proofs.Ytknghmogfbpclaa
/- THE CELL 'sum', in the pinned program and in every row, IS THE sha256 OF THE DUMP (.gsa) THAT YtknghmogfbpclaaProg.lean LOADS. Nothing in Lean hashes anything: it is a label: what it is worth is what the hold of that sum in a sandbox is worth. -/
noncomputable def Try.pinned : Pinned := { name := "ytknghmogfbpclaa", sum := "0507f85576c16929ce127296f20ea3f03a19a66fd33dd6cd7be4dce7186d1d55", checked := Try.checked }
namespace Rows
def none {H : Type} : Left H := { results := [], args := [] }

/-- 'tipstafflaw07.ObjtabMost': WHATEVER THE INPUT: true; the input reads as it did. -/
def objtabMostSpec : ChangeSpec := { name := "objtabMost", fn := fun _ => fun
  | [d] => { results := [.lit (.bool true)], args := [d] }
  | _ => none }
def objtabMostRow : OpenClaim := { program := "ytknghmogfbpclaa", sum := "0507f85576c16929ce127296f20ea3f03a19a66fd33dd6cd7be4dce7186d1d55", func := "tipstaff/tipstafflaw07.ObjtabMost", spec := "objtabMost", apart := false }
def ObjtabMostSaid : Prop := objtabMostRow.holds Try.pinned (OpenSpec.ofChange objtabMostSpec)

/-- ITS FALSE NEIGHBOUR: 'it returns false'. Refute it at one input. -/
def objtabMostWrong : ChangeSpec := { name := "objtabMost", fn := fun _ => fun
  | [d] => { results := [.lit (.bool false)], args := [d] }
  | _ => none }
def ObjtabMostWrongFalsely : Prop := objtabMostRow.holds Try.pinned (OpenSpec.ofChange objtabMostWrong)

/-- 'tipstafflaw07.ObjtabApart': WHATEVER THE INPUT: true; the input reads as it did. -/
def objtabApartSpec : ChangeSpec := { name := "objtabApart", fn := fun _ => fun
  | [d1, d2, d3] => { results := [.lit (.bool true)], args := [d1, d2, d3] }
  | _ => none }
def objtabApartRow : OpenClaim := { program := "ytknghmogfbpclaa", sum := "0507f85576c16929ce127296f20ea3f03a19a66fd33dd6cd7be4dce7186d1d55", func := "tipstaff/tipstafflaw07.ObjtabApart", spec := "objtabApart", apart := false }
def ObjtabApartSaid : Prop := objtabApartRow.holds Try.pinned (OpenSpec.ofChange objtabApartSpec)

/-- ITS FALSE NEIGHBOUR: 'it returns false'. Refute it at one input. -/
def objtabApartWrong : ChangeSpec := { name := "objtabApart", fn := fun _ => fun
  | [d1, d2, d3] => { results := [.lit (.bool false)], args := [d1, d2, d3] }
  | _ => none }
def ObjtabApartWrongFalsely : Prop := objtabApartRow.holds Try.pinned (OpenSpec.ofChange objtabApartWrong)

/-- 'tipstafflaw07.ObjtabNumbers': WHATEVER THE INPUT: true; the input reads as it did. -/
def objtabNumbersSpec : ChangeSpec := { name := "objtabNumbers", fn := fun _ => fun
  | [d1, d2] => { results := [.lit (.bool true)], args := [d1, d2] }
  | _ => none }
def objtabNumbersRow : OpenClaim := { program := "ytknghmogfbpclaa", sum := "0507f85576c16929ce127296f20ea3f03a19a66fd33dd6cd7be4dce7186d1d55", func := "tipstaff/tipstafflaw07.ObjtabNumbers", spec := "objtabNumbers", unfollowed := true, recurses := true, apart := false }
def ObjtabNumbersSaid : Prop := objtabNumbersRow.holds Try.pinned (OpenSpec.ofChange objtabNumbersSpec)

/-- ITS FALSE NEIGHBOUR: 'it returns false'. Refute it at one input. -/
def objtabNumbersWrong : ChangeSpec := { name := "objtabNumbers", fn := fun _ => fun
  | [d1, d2] => { results := [.lit (.bool false)], args := [d1, d2] }
  | _ => none }
def ObjtabNumbersWrongFalsely : Prop := objtabNumbersRow.holds Try.pinned (OpenSpec.ofChange objtabNumbersWrong)

/-- 'tipstafflaw07.ObjtabActs': WHATEVER THE INPUT: true; the input reads as it did. -/
def objtabActsSpec : ChangeSpec := { name := "objtabActs", fn := fun _ => fun
  | [d1, d2] => { results := [.lit (.bool true)], args := [d1, d2] }
  | _ => none }
def objtabActsRow : OpenClaim := { program := "ytknghmogfbpclaa", sum := "0507f85576c16929ce127296f20ea3f03a19a66fd33dd6cd7be4dce7186d1d55", func := "tipstaff/tipstafflaw07.ObjtabActs", spec := "objtabActs", unfollowed := true, recurses := true, apart := false }
def ObjtabActsSaid : Prop := objtabActsRow.holds Try.pinned (OpenSpec.ofChange objtabActsSpec)

/-- ITS FALSE NEIGHBOUR: 'it returns false'. Refute it at one input. -/
def objtabActsWrong : ChangeSpec := { name := "objtabActs", fn := fun _ => fun
  | [d1, d2] => { results := [.lit (.bool false)], args := [d1, d2] }
  | _ => none }
def ObjtabActsWrongFalsely : Prop := objtabActsRow.holds Try.pinned (OpenSpec.ofChange objtabActsWrong)

/- THE SECOND FORM. 'bulk': how many values and letters a reading holds, each counted each time it is reached (what is shared counts as often as it is met; a slice's spare places count too). A statement '..UptoSaid' is the law's where the arguments, and the package variables that the reading takes, are together of bulk at most 1048576: NARROWER than '..Said'. Prove '..Said' where nothing that the law and all that it calls make is longer than what came in: it says more and counts as full. Else prove '..UptoSaid'. A law counts once. -/
mutual
def uptoBulk {H : Type} : DataW H → Nat
  | .lit (.string bytes) => bytes.length + 1
  | .lit _ => 1
  | .nil => 1
  | .ptr d => uptoBulk d + 1
  | .slice elems spare => uptoBulkAll elems + uptoBulkAll spare + 1
  | .agg parts => uptoBulkAll parts + 1
  | .iface _ d => uptoBulk d + 1
  | .map entries => uptoBulkEntries entries + 1
  | .held _ => 1
def uptoBulkAll {H : Type} : List (DataW H) → Nat
  | [] => 0
  | d :: r => uptoBulk d + uptoBulkAll r
def uptoBulkEntries {H : Type} : List (Lit × DataW H) → Nat
  | [] => 0
  | x :: r => uptoBulkEntry x + uptoBulkEntries r
def uptoBulkEntry {H : Type} : Lit × DataW H → Nat
  | (.string bytes, d) => bytes.length + uptoBulk d + 1
  | (_, d) => uptoBulk d + 1
 end
def uptoSmall : (H : Type) → List (DataW H) → Bool := fun _ ds => decide (uptoBulkAll ds ≤ 1048576)
def OpenSpec.upto (s : _root_.Go.ChangeSpec) : _root_.Go.OpenSpec := { _root_.Go.OpenSpec.ofChange s with cond := some uptoSmall }

/-- 'tipstafflaw07.ObjtabMost', WHERE WHAT IT READS IS OF BULK AT MOST 1048576: true; the input reads as it did. -/
def objtabMostUptoRow : OpenClaim := { program := "ytknghmogfbpclaa", sum := "0507f85576c16929ce127296f20ea3f03a19a66fd33dd6cd7be4dce7186d1d55", func := "tipstaff/tipstafflaw07.ObjtabMost", spec := "objtabMost", apart := false, narrowed := true }
def ObjtabMostUptoSaid : Prop := objtabMostUptoRow.holds Try.pinned (OpenSpec.upto objtabMostSpec)

/-- 'tipstafflaw07.ObjtabApart', WHERE WHAT IT READS IS OF BULK AT MOST 1048576: true; the input reads as it did. -/
def objtabApartUptoRow : OpenClaim := { program := "ytknghmogfbpclaa", sum := "0507f85576c16929ce127296f20ea3f03a19a66fd33dd6cd7be4dce7186d1d55", func := "tipstaff/tipstafflaw07.ObjtabApart", spec := "objtabApart", apart := false, narrowed := true }
def ObjtabApartUptoSaid : Prop := objtabApartUptoRow.holds Try.pinned (OpenSpec.upto objtabApartSpec)

/-- 'tipstafflaw07.ObjtabNumbers', WHERE WHAT IT READS IS OF BULK AT MOST 1048576: true; the input reads as it did. -/
def objtabNumbersUptoRow : OpenClaim := { program := "ytknghmogfbpclaa", sum := "0507f85576c16929ce127296f20ea3f03a19a66fd33dd6cd7be4dce7186d1d55", func := "tipstaff/tipstafflaw07.ObjtabNumbers", spec := "objtabNumbers", unfollowed := true, recurses := true, apart := false, narrowed := true }
def ObjtabNumbersUptoSaid : Prop := objtabNumbersUptoRow.holds Try.pinned (OpenSpec.upto objtabNumbersSpec)

/-- 'tipstafflaw07.ObjtabActs', WHERE WHAT IT READS IS OF BULK AT MOST 1048576: true; the input reads as it did. -/
def objtabActsUptoRow : OpenClaim := { program := "ytknghmogfbpclaa", sum := "0507f85576c16929ce127296f20ea3f03a19a66fd33dd6cd7be4dce7186d1d55", func := "tipstaff/tipstafflaw07.ObjtabActs", spec := "objtabActs", unfollowed := true, recurses := true, apart := false, narrowed := true }
def ObjtabActsUptoSaid : Prop := objtabActsUptoRow.holds Try.pinned (OpenSpec.upto objtabActsSpec)

end Rows
end Go.Proofs.Ytknghmogfbpclaa
