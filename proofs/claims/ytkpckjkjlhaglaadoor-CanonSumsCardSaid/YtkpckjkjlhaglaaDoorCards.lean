/-
  DERIVED. GIVEN WITH THE SEED: THE CARDS: each row of YtkpckjkjlhaglaaDoorRows.lean that lists a variable, with what it lists TIED to the program's text (the seventh form; the later family's looks); each row that meets fmt, with fmt's text TOLD by the authors' own Lean function (tested against real Go, not proved from fmt's source: count such statements apart). THE CARD IS WHAT COUNTS. Prove the row's statement (the work); the ties are given (YtkpckjkjlhaglaaDoorTie.lean); close each card by the builder's one call (the guide's Derived/Test/ToyasCard.lean, 'card_holds'). Laid BY PROGRAM, IN A SANDBOX (cutbox-door.mjs). By AI agents, Wed Nov 11 2026. No macro, syntax, notation, axiom, sorry.
-/
import Derived.Test.YtkpckjkjlhaglaaDoorRows
import GoSem.ClaimSeven
namespace Go.Proofs.YtkpckjkjlhaglaaDoor
namespace Rows

/-- THE TIED CARD OF 'tipstafflaw06.CanonSums'. -/
def canonSumsCard : Claim7 := { stood := { row := canonSumsRow, standIns := [], harness := (true, "963878e8f7b535e2a1a2e83c7280b0ab13c68322a95ede6c85cbf947fe5f7d1d"), looks := false }, kinds := [], alts := [], laidByText := true, laidKinds := [.data, .data], laidTests := true, laidLooks := .later }
def CanonSumsCardSaid : Prop := Claim7.holds Tryd.pinned (.plain (OpenSpec.ofChange canonSumsSpec)) canonSumsCard

/-- THE SECOND FORM's CARD OF 'tipstafflaw06.CanonSums'. -/
def canonSumsUptoCard : Claim7 := { stood := { row := canonSumsUptoRow, standIns := [], harness := (true, "963878e8f7b535e2a1a2e83c7280b0ab13c68322a95ede6c85cbf947fe5f7d1d"), looks := false }, kinds := [], alts := [], laidByText := true, laidKinds := [.data, .data], laidTests := true, laidLooks := .later }
def CanonSumsUptoCardSaid : Prop := Claim7.holds Tryd.pinned (.plain (OpenSpec.upto canonSumsSpec)) canonSumsUptoCard
end Rows
end Go.Proofs.YtkpckjkjlhaglaaDoor
