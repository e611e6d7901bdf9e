/-
  No cell of these rows narrows 'for every input' (looked for: loops, veiled, ifaces, maps, wideKeys, modest, calm, conditions, laid).
  DERIVED. THE GIVEN ROWS OF THIS SEAT. 5 by the template 'for every input the law returns true; each argument reads behind the call as it read before'; 0 by the template 'total and deterministic' (their statements: YtooifaakflphpaaTotals.lean).
  GIVEN WITH THE SEED: the statements are not yours to turn. If you find one false, say at which input.
  Laid BY PROGRAM, IN A SANDBOX (cutbox-rows.mjs): the forced cells as the released guide's own fill.sh prints them over the translation 18ae55de8db23765… (all of the seat's roots in one cut). By AI agents, Wed Nov 11 2026. No macro, syntax, notation, axiom, sorry.
-/
import Derived.Test.YtooifaakflphpaaChecked
import GoSem.Claim
import GoSem.ClaimJoined
import GoSem.ClaimMapViews
import Derived.JoinedTies
import Derived.KernelRfl
namespace Go.Proofs.Ytooifaakflphpaa
/- THE CELL 'sum', in the pinned program and in every row, IS THE sha256 OF THE DUMP (.gsa) THAT YtooifaakflphpaaProg.lean LOADS. Nothing in Lean hashes anything: it is a label: what it is worth is what the hold of that sum in a sandbox is worth. -/
noncomputable def Try.pinned : Pinned := { name := "ytooifaakflphpaa", sum := "18ae55de8db23765c21a4f27a35451ecab5930462a8d059e7f31ff28f2b591b5", checked := Try.checked }
namespace Rows
def none {H : Type} : Left H := { results := [], args := [] }

/-- 'tipstafflaw16.CfgNexts': WHATEVER THE INPUT: true; the input reads as it did. -/
def cfgNextsSpec : ChangeSpec := { name := "cfgNexts", fn := fun _ => fun
  | [d1, d2] => { results := [.lit (.bool true)], args := [d1, d2] }
  | _ => none }
def cfgNextsRow : OpenClaim := { program := "ytooifaakflphpaa", sum := "18ae55de8db23765c21a4f27a35451ecab5930462a8d059e7f31ff28f2b591b5", func := "tipstaff/tipstafflaw16.CfgNexts", spec := "cfgNexts", unfollowed := true, recurses := true, apart := false }
def CfgNextsSaid : Prop := cfgNextsRow.holds Try.pinned (OpenSpec.ofChange cfgNextsSpec)

/-- ITS FALSE NEIGHBOUR: 'it returns false'. Refute it at one input. -/
def cfgNextsWrong : ChangeSpec := { name := "cfgNexts", fn := fun _ => fun
  | [d1, d2] => { results := [.lit (.bool false)], args := [d1, d2] }
  | _ => none }
def CfgNextsWrongFalsely : Prop := cfgNextsRow.holds Try.pinned (OpenSpec.ofChange cfgNextsWrong)

/-- 'tipstafflaw16.CfgChecks': WHATEVER THE INPUT: true; the input reads as it did. -/
def cfgChecksSpec : ChangeSpec := { name := "cfgChecks", fn := fun _ => fun
  | [d1, d2] => { results := [.lit (.bool true)], args := [d1, d2] }
  | _ => none }
def cfgChecksRow : OpenClaim := { program := "ytooifaakflphpaa", sum := "18ae55de8db23765c21a4f27a35451ecab5930462a8d059e7f31ff28f2b591b5", func := "tipstaff/tipstafflaw16.CfgChecks", spec := "cfgChecks", unfollowed := true, recurses := true, apart := false }
def CfgChecksSaid : Prop := cfgChecksRow.holds Try.pinned (OpenSpec.ofChange cfgChecksSpec)

/-- ITS FALSE NEIGHBOUR: 'it returns false'. Refute it at one input. -/
def cfgChecksWrong : ChangeSpec := { name := "cfgChecks", fn := fun _ => fun
  | [d1, d2] => { results := [.lit (.bool false)], args := [d1, d2] }
  | _ => none }
def CfgChecksWrongFalsely : Prop := cfgChecksRow.holds Try.pinned (OpenSpec.ofChange cfgChecksWrong)

/-- 'tipstafflaw16.CfgLines': WHATEVER THE INPUT: true; the input reads as it did. -/
def cfgLinesSpec : ChangeSpec := { name := "cfgLines", fn := fun _ => fun
  | [d1, d2] => { results := [.lit (.bool true)], args := [d1, d2] }
  | _ => none }
def cfgLinesRow : OpenClaim := { program := "ytooifaakflphpaa", sum := "18ae55de8db23765c21a4f27a35451ecab5930462a8d059e7f31ff28f2b591b5", func := "tipstaff/tipstafflaw16.CfgLines", spec := "cfgLines", unfollowed := true, recurses := true, apart := false }
def CfgLinesSaid : Prop := cfgLinesRow.holds Try.pinned (OpenSpec.ofChange cfgLinesSpec)

/-- ITS FALSE NEIGHBOUR: 'it returns false'. Refute it at one input. -/
def cfgLinesWrong : ChangeSpec := { name := "cfgLines", fn := fun _ => fun
  | [d1, d2] => { results := [.lit (.bool false)], args := [d1, d2] }
  | _ => none }
def CfgLinesWrongFalsely : Prop := cfgLinesRow.holds Try.pinned (OpenSpec.ofChange cfgLinesWrong)

/-- 'tipstafflaw16.CfgSkips': WHATEVER THE INPUT: true; the input reads as it did. -/
def cfgSkipsSpec : ChangeSpec := { name := "cfgSkips", fn := fun _ => fun
  | [d1, d2] => { results := [.lit (.bool true)], args := [d1, d2] }
  | _ => none }
def cfgSkipsRow : OpenClaim := { program := "ytooifaakflphpaa", sum := "18ae55de8db23765c21a4f27a35451ecab5930462a8d059e7f31ff28f2b591b5", func := "tipstaff/tipstafflaw16.CfgSkips", spec := "cfgSkips", unfollowed := true, recurses := true, apart := false }
def CfgSkipsSaid : Prop := cfgSkipsRow.holds Try.pinned (OpenSpec.ofChange cfgSkipsSpec)

/-- ITS FALSE NEIGHBOUR: 'it returns false'. Refute it at one input. -/
def cfgSkipsWrong : ChangeSpec := { name := "cfgSkips", fn := fun _ => fun
  | [d1, d2] => { results := [.lit (.bool false)], args := [d1, d2] }
  | _ => none }
def CfgSkipsWrongFalsely : Prop := cfgSkipsRow.holds Try.pinned (OpenSpec.ofChange cfgSkipsWrong)

/-- 'tipstafflaw16.CfgLoops': WHATEVER THE INPUT: true; the input reads as it did. -/
def cfgLoopsSpec : ChangeSpec := { name := "cfgLoops", fn := fun _ => fun
  | [d1, d2, d3] => { results := [.lit (.bool true)], args := [d1, d2, d3] }
  | _ => none }
def cfgLoopsRow : OpenClaim := { program := "ytooifaakflphpaa", sum := "18ae55de8db23765c21a4f27a35451ecab5930462a8d059e7f31ff28f2b591b5", func := "tipstaff/tipstafflaw16.CfgLoops", spec := "cfgLoops", unfollowed := true, recurses := true, apart := false }
def CfgLoopsSaid : Prop := cfgLoopsRow.holds Try.pinned (OpenSpec.ofChange cfgLoopsSpec)

/-- ITS FALSE NEIGHBOUR: 'it returns false'. Refute it at one input. -/
def cfgLoopsWrong : ChangeSpec := { name := "cfgLoops", fn := fun _ => fun
  | [d1, d2, d3] => { results := [.lit (.bool false)], args := [d1, d2, d3] }
  | _ => none }
def CfgLoopsWrongFalsely : Prop := cfgLoopsRow.holds Try.pinned (OpenSpec.ofChange cfgLoopsWrong)

/- THE SECOND FORM. 'bulk': how many values and letters a reading holds, each counted each time it is reached (what is shared counts as often as it is met; a slice's spare places count too). A statement '..UptoSaid' is the law's where the arguments, and the package variables that the reading takes, are together of bulk at most 1048576: NARROWER than '..Said'. Prove '..Said' where nothing that the law and all that it calls make is longer than what came in: it says more and counts as full. Else prove '..UptoSaid'. A law counts once. -/
mutual
def uptoBulk {H : Type} : DataW H → Nat
  | .lit (.string bytes) => bytes.length + 1
  | .lit _ => 1
  | .nil => 1
  | .ptr d => uptoBulk d + 1
  | .slice elems spare => uptoBulkAll elems + uptoBulkAll spare + 1
  | .agg parts => uptoBulkAll parts + 1
  | .iface _ d => uptoBulk d + 1
  | .map entries => uptoBulkEntries entries + 1
  | .held _ => 1
def uptoBulkAll {H : Type} : List (DataW H) → Nat
  | [] => 0
  | d :: r => uptoBulk d + uptoBulkAll r
def uptoBulkEntries {H : Type} : List (Lit × DataW H) → Nat
  | [] => 0
  | x :: r => uptoBulkEntry x + uptoBulkEntries r
def uptoBulkEntry {H : Type} : Lit × DataW H → Nat
  | (.string bytes, d) => bytes.length + uptoBulk d + 1
  | (_, d) => uptoBulk d + 1
 end
def uptoSmall : (H : Type) → List (DataW H) → Bool := fun _ ds => decide (uptoBulkAll ds ≤ 1048576)
def OpenSpec.upto (s : _root_.Go.ChangeSpec) : _root_.Go.OpenSpec := { _root_.Go.OpenSpec.ofChange s with cond := some uptoSmall }

/-- 'tipstafflaw16.CfgNexts', WHERE WHAT IT READS IS OF BULK AT MOST 1048576: true; the input reads as it did. -/
def cfgNextsUptoRow : OpenClaim := { program := "ytooifaakflphpaa", sum := "18ae55de8db23765c21a4f27a35451ecab5930462a8d059e7f31ff28f2b591b5", func := "tipstaff/tipstafflaw16.CfgNexts", spec := "cfgNexts", unfollowed := true, recurses := true, apart := false, narrowed := true }
def CfgNextsUptoSaid : Prop := cfgNextsUptoRow.holds Try.pinned (OpenSpec.upto cfgNextsSpec)

/-- 'tipstafflaw16.CfgChecks', WHERE WHAT IT READS IS OF BULK AT MOST 1048576: true; the input reads as it did. -/
def cfgChecksUptoRow : OpenClaim := { program := "ytooifaakflphpaa", sum := "18ae55de8db23765c21a4f27a35451ecab5930462a8d059e7f31ff28f2b591b5", func := "tipstaff/tipstafflaw16.CfgChecks", spec := "cfgChecks", unfollowed := true, recurses := true, apart := false, narrowed := true }
def CfgChecksUptoSaid : Prop := cfgChecksUptoRow.holds Try.pinned (OpenSpec.upto cfgChecksSpec)

/-- 'tipstafflaw16.CfgLines', WHERE WHAT IT READS IS OF BULK AT MOST 1048576: true; the input reads as it did. -/
def cfgLinesUptoRow : OpenClaim := { program := "ytooifaakflphpaa", sum := "18ae55de8db23765c21a4f27a35451ecab5930462a8d059e7f31ff28f2b591b5", func := "tipstaff/tipstafflaw16.CfgLines", spec := "cfgLines", unfollowed := true, recurses := true, apart := false, narrowed := true }
def CfgLinesUptoSaid : Prop := cfgLinesUptoRow.holds Try.pinned (OpenSpec.upto cfgLinesSpec)

/-- 'tipstafflaw16.CfgSkips', WHERE WHAT IT READS IS OF BULK AT MOST 1048576: true; the input reads as it did. -/
def cfgSkipsUptoRow : OpenClaim := { program := "ytooifaakflphpaa", sum := "18ae55de8db23765c21a4f27a35451ecab5930462a8d059e7f31ff28f2b591b5", func := "tipstaff/tipstafflaw16.CfgSkips", spec := "cfgSkips", unfollowed := true, recurses := true, apart := false, narrowed := true }
def CfgSkipsUptoSaid : Prop := cfgSkipsUptoRow.holds Try.pinned (OpenSpec.upto cfgSkipsSpec)

/-- 'tipstafflaw16.CfgLoops', WHERE WHAT IT READS IS OF BULK AT MOST 1048576: true; the input reads as it did. -/
def cfgLoopsUptoRow : OpenClaim := { program := "ytooifaakflphpaa", sum := "18ae55de8db23765c21a4f27a35451ecab5930462a8d059e7f31ff28f2b591b5", func := "tipstaff/tipstafflaw16.CfgLoops", spec := "cfgLoops", unfollowed := true, recurses := true, apart := false, narrowed := true }
def CfgLoopsUptoSaid : Prop := cfgLoopsUptoRow.holds Try.pinned (OpenSpec.upto cfgLoopsSpec)

end Rows
end Go.Proofs.Ytooifaakflphpaa
