/-
  NARROWER THAN 'FOR EVERY INPUT', by the rows' own cells (each row's printed sentence says how): TokenDepth: laid · TokenForged: laid · TokenDerives: laid · TokenInside: laid.
  DERIVED. THE GIVEN ROWS OF THIS SEAT. 4 by the template 'for every input the law returns true; each argument reads behind the call as it read before'; 0 by the template 'total and deterministic' (their statements: YtnjgehfnafdldaaDoorTotals.lean).
  GIVEN WITH THE SEED: the statements are not yours to turn. If you find one false, say at which input.
  Laid BY PROGRAM, IN A SANDBOX (cutbox-rows.mjs): the forced cells as the released guide's own fill.sh prints them over the translation 31637be920584f9d… (all of the seat's roots in one cut). By AI agents, Wed Nov 11 2026. No macro, syntax, notation, axiom, sorry.
-/
import Derived.Test.YtnjgehfnafdldaaDoorChecked
import GoSem.Claim
import GoSem.ClaimJoined
import GoSem.ClaimMapViews
import Derived.JoinedTies
import Derived.KernelRfl
namespace Go.Proofs.YtnjgehfnafdldaaDoor
/- THE CELL 'sum', in the pinned program and in every row, IS THE sha256 OF THE DUMP (.gsa) THAT YtnjgehfnafdldaaDoorProg.lean LOADS. Nothing in Lean hashes anything: it is a label: what it is worth is what the hold of that sum in a sandbox is worth. -/
noncomputable def Tryd.pinned : Pinned := { name := "ytnjgehfnafdldaadoor", sum := "31637be920584f9ddb7e309bbee4b04c11113a76eb85a6e44067bb8d81f58711", checked := Tryd.checked }
namespace Rows
def none {H : Type} : Left H := { results := [], args := [] }

/- WHAT THE LISTED PACKAGE-LEVEL VARIABLES READ AS WHEN THE CALL BEGINS. Each datum BY PROGRAM (the guide's laid-datum.mjs) off the statement by which the dump's own 'gosem.cut.vars' lays the variable. In a bare row this is a premise. The card (YtnjgehfnafdldaaDoorCards.lean) ties it to the program's text. -/
def laid_tipstaff_rights_helpers {H : Type} : DataW H := .agg [.lit (.int .i32 1), .lit (.int .i32 2), .lit (.int .i32 3), .lit (.int .i32 5), .lit (.int .i32 7), .lit (.int .i32 87), .lit (.int .i32 88), .lit (.int .i32 89)]

/-- 'tipstafflaw12.TokenDepth': WHATEVER THE INPUT: true; the input reads as it did. -/
def tokenDepthSpec : ChangeSpec := { name := "tokenDepth", fn := fun _ => fun
  | [d1, d2, d3] => { results := [.lit (.bool true)], args := [d1, d2, d3] }
  | _ => none }
def tokenDepthRow : OpenClaim := { program := "ytnjgehfnafdldaadoor", sum := "31637be920584f9ddb7e309bbee4b04c11113a76eb85a6e44067bb8d81f58711", func := "tipstaff/tipstafflaw12.TokenDepth", spec := "tokenDepth", named := ["tipstaff/rights.helpers"], apart := false, laid := [("tipstaff/rights.helpers", laid_tipstaff_rights_helpers)] }
def TokenDepthSaid : Prop := tokenDepthRow.holds Tryd.pinned (OpenSpec.ofChange tokenDepthSpec)

/-- ITS FALSE NEIGHBOUR: 'it returns false'. Refute it at one input. -/
def tokenDepthWrong : ChangeSpec := { name := "tokenDepth", fn := fun _ => fun
  | [d1, d2, d3] => { results := [.lit (.bool false)], args := [d1, d2, d3] }
  | _ => none }
def TokenDepthWrongFalsely : Prop := tokenDepthRow.holds Tryd.pinned (OpenSpec.ofChange tokenDepthWrong)

/-- 'tipstafflaw12.TokenForged': WHATEVER THE INPUT: true; the input reads as it did. -/
def tokenForgedSpec : ChangeSpec := { name := "tokenForged", fn := fun _ => fun
  | [d] => { results := [.lit (.bool true)], args := [d] }
  | _ => none }
def tokenForgedRow : OpenClaim := { program := "ytnjgehfnafdldaadoor", sum := "31637be920584f9ddb7e309bbee4b04c11113a76eb85a6e44067bb8d81f58711", func := "tipstaff/tipstafflaw12.TokenForged", spec := "tokenForged", named := ["tipstaff/rights.helpers"], apart := false, laid := [("tipstaff/rights.helpers", laid_tipstaff_rights_helpers)] }
def TokenForgedSaid : Prop := tokenForgedRow.holds Tryd.pinned (OpenSpec.ofChange tokenForgedSpec)

/-- ITS FALSE NEIGHBOUR: 'it returns false'. Refute it at one input. -/
def tokenForgedWrong : ChangeSpec := { name := "tokenForged", fn := fun _ => fun
  | [d] => { results := [.lit (.bool false)], args := [d] }
  | _ => none }
def TokenForgedWrongFalsely : Prop := tokenForgedRow.holds Tryd.pinned (OpenSpec.ofChange tokenForgedWrong)

/-- 'tipstafflaw12.TokenDerives': WHATEVER THE INPUT: true; the input reads as it did. -/
def tokenDerivesSpec : ChangeSpec := { name := "tokenDerives", fn := fun _ => fun
  | [d1, d2, d3] => { results := [.lit (.bool true)], args := [d1, d2, d3] }
  | _ => none }
def tokenDerivesRow : OpenClaim := { program := "ytnjgehfnafdldaadoor", sum := "31637be920584f9ddb7e309bbee4b04c11113a76eb85a6e44067bb8d81f58711", func := "tipstaff/tipstafflaw12.TokenDerives", spec := "tokenDerives", named := ["tipstaff/rights.helpers"], apart := false, laid := [("tipstaff/rights.helpers", laid_tipstaff_rights_helpers)] }
def TokenDerivesSaid : Prop := tokenDerivesRow.holds Tryd.pinned (OpenSpec.ofChange tokenDerivesSpec)

/-- ITS FALSE NEIGHBOUR: 'it returns false'. Refute it at one input. -/
def tokenDerivesWrong : ChangeSpec := { name := "tokenDerives", fn := fun _ => fun
  | [d1, d2, d3] => { results := [.lit (.bool false)], args := [d1, d2, d3] }
  | _ => none }
def TokenDerivesWrongFalsely : Prop := tokenDerivesRow.holds Tryd.pinned (OpenSpec.ofChange tokenDerivesWrong)

/-- 'tipstafflaw12.TokenInside': WHATEVER THE INPUT: true; the input reads as it did. -/
def tokenInsideSpec : ChangeSpec := { name := "tokenInside", fn := fun _ => fun
  | [d1, d2, d3] => { results := [.lit (.bool true)], args := [d1, d2, d3] }
  | _ => none }
def tokenInsideRow : OpenClaim := { program := "ytnjgehfnafdldaadoor", sum := "31637be920584f9ddb7e309bbee4b04c11113a76eb85a6e44067bb8d81f58711", func := "tipstaff/tipstafflaw12.TokenInside", spec := "tokenInside", named := ["tipstaff/rights.helpers"], apart := false, laid := [("tipstaff/rights.helpers", laid_tipstaff_rights_helpers)] }
def TokenInsideSaid : Prop := tokenInsideRow.holds Tryd.pinned (OpenSpec.ofChange tokenInsideSpec)

/-- ITS FALSE NEIGHBOUR: 'it returns false'. Refute it at one input. -/
def tokenInsideWrong : ChangeSpec := { name := "tokenInside", fn := fun _ => fun
  | [d1, d2, d3] => { results := [.lit (.bool false)], args := [d1, d2, d3] }
  | _ => none }
def TokenInsideWrongFalsely : Prop := tokenInsideRow.holds Tryd.pinned (OpenSpec.ofChange tokenInsideWrong)

/- THE SECOND FORM. 'bulk': how many values and letters a reading holds, each counted each time it is reached (what is shared counts as often as it is met; a slice's spare places count too). A statement '..UptoSaid' is the law's where the arguments, and the package variables that the reading takes, are together of bulk at most 1048576: NARROWER than '..Said'. Prove '..Said' where nothing that the law and all that it calls make is longer than what came in: it says more and counts as full. Else prove '..UptoSaid'. A law counts once. -/
mutual
def uptoBulk {H : Type} : DataW H → Nat
  | .lit (.string bytes) => bytes.length + 1
  | .lit _ => 1
  | .nil => 1
  | .ptr d => uptoBulk d + 1
  | .slice elems spare => uptoBulkAll elems + uptoBulkAll spare + 1
  | .agg parts => uptoBulkAll parts + 1
  | .iface _ d => uptoBulk d + 1
  | .map entries => uptoBulkEntries entries + 1
  | .held _ => 1
def uptoBulkAll {H : Type} : List (DataW H) → Nat
  | [] => 0
  | d :: r => uptoBulk d + uptoBulkAll r
def uptoBulkEntries {H : Type} : List (Lit × DataW H) → Nat
  | [] => 0
  | x :: r => uptoBulkEntry x + uptoBulkEntries r
def uptoBulkEntry {H : Type} : Lit × DataW H → Nat
  | (.string bytes, d) => bytes.length + uptoBulk d + 1
  | (_, d) => uptoBulk d + 1
 end
def uptoSmall : (H : Type) → List (DataW H) → Bool := fun _ ds => decide (uptoBulkAll ds ≤ 1048576)
def OpenSpec.upto (s : _root_.Go.ChangeSpec) : _root_.Go.OpenSpec := { _root_.Go.OpenSpec.ofChange s with cond := some uptoSmall }

/-- 'tipstafflaw12.TokenDepth', WHERE WHAT IT READS IS OF BULK AT MOST 1048576: true; the input reads as it did. -/
def tokenDepthUptoRow : OpenClaim := { program := "ytnjgehfnafdldaadoor", sum := "31637be920584f9ddb7e309bbee4b04c11113a76eb85a6e44067bb8d81f58711", func := "tipstaff/tipstafflaw12.TokenDepth", spec := "tokenDepth", named := ["tipstaff/rights.helpers"], apart := false, laid := [("tipstaff/rights.helpers", laid_tipstaff_rights_helpers)], narrowed := true }
def TokenDepthUptoSaid : Prop := tokenDepthUptoRow.holds Tryd.pinned (OpenSpec.upto tokenDepthSpec)

/-- 'tipstafflaw12.TokenForged', WHERE WHAT IT READS IS OF BULK AT MOST 1048576: true; the input reads as it did. -/
def tokenForgedUptoRow : OpenClaim := { program := "ytnjgehfnafdldaadoor", sum := "31637be920584f9ddb7e309bbee4b04c11113a76eb85a6e44067bb8d81f58711", func := "tipstaff/tipstafflaw12.TokenForged", spec := "tokenForged", named := ["tipstaff/rights.helpers"], apart := false, laid := [("tipstaff/rights.helpers", laid_tipstaff_rights_helpers)], narrowed := true }
def TokenForgedUptoSaid : Prop := tokenForgedUptoRow.holds Tryd.pinned (OpenSpec.upto tokenForgedSpec)

/-- 'tipstafflaw12.TokenDerives', WHERE WHAT IT READS IS OF BULK AT MOST 1048576: true; the input reads as it did. -/
def tokenDerivesUptoRow : OpenClaim := { program := "ytnjgehfnafdldaadoor", sum := "31637be920584f9ddb7e309bbee4b04c11113a76eb85a6e44067bb8d81f58711", func := "tipstaff/tipstafflaw12.TokenDerives", spec := "tokenDerives", named := ["tipstaff/rights.helpers"], apart := false, laid := [("tipstaff/rights.helpers", laid_tipstaff_rights_helpers)], narrowed := true }
def TokenDerivesUptoSaid : Prop := tokenDerivesUptoRow.holds Tryd.pinned (OpenSpec.upto tokenDerivesSpec)

/-- 'tipstafflaw12.TokenInside', WHERE WHAT IT READS IS OF BULK AT MOST 1048576: true; the input reads as it did. -/
def tokenInsideUptoRow : OpenClaim := { program := "ytnjgehfnafdldaadoor", sum := "31637be920584f9ddb7e309bbee4b04c11113a76eb85a6e44067bb8d81f58711", func := "tipstaff/tipstafflaw12.TokenInside", spec := "tokenInside", named := ["tipstaff/rights.helpers"], apart := false, laid := [("tipstaff/rights.helpers", laid_tipstaff_rights_helpers)], narrowed := true }
def TokenInsideUptoSaid : Prop := tokenInsideUptoRow.holds Tryd.pinned (OpenSpec.upto tokenInsideSpec)

end Rows
end Go.Proofs.YtnjgehfnafdldaaDoor
