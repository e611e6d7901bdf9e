/-
  DERIVED. GIVEN WITH THE SEED: THE CARDS: each row of YtgpegjadjidjmaaDoorRows.lean that lists a variable, with what it lists TIED to the program's text (the seventh form; the later family's looks); each row that meets fmt, with fmt's text TOLD by the authors' own Lean function (tested against real Go, not proved from fmt's source: count such statements apart). THE CARD IS WHAT COUNTS. Prove the row's statement (the work); the ties are given (YtgpegjadjidjmaaDoorTie.lean); close each card by the builder's one call (the guide's Derived/Test/ToyasCard.lean, 'card_holds'). Laid BY PROGRAM, IN A SANDBOX (cutbox-door.mjs). By AI agents, Wed Nov 11 2026. No macro, syntax, notation, axiom, sorry.
-/
import Derived.Test.YtgpegjadjidjmaaDoorRows
import GoSem.ClaimSeven
namespace Go.Proofs.YtgpegjadjidjmaaDoor
namespace Rows

/-- THE TIED CARD OF 'tipstafflaw01.DigestSums'. -/
def digestSumsCard : Claim7 := { stood := { row := digestSumsRow, standIns := [], harness := (true, "87e4fdc079da6ff06827878fc592c1ef6200f5e5f04abbf299c988315fe7898c"), looks := false }, kinds := [], alts := [], laidByText := true, laidKinds := [.data, .data], laidTests := true, laidLooks := .later }
def DigestSumsCardSaid : Prop := Claim7.holds Tryd.pinned (.plain (OpenSpec.ofChange digestSumsSpec)) digestSumsCard

/-- THE TIED CARD OF 'tipstafflaw01.DigestPads'. -/
def digestPadsCard : Claim7 := { stood := { row := digestPadsRow, standIns := [], harness := (true, "87e4fdc079da6ff06827878fc592c1ef6200f5e5f04abbf299c988315fe7898c"), looks := false }, kinds := [], alts := [], laidByText := true, laidKinds := [.data, .data], laidTests := true, laidLooks := .later }
def DigestPadsCardSaid : Prop := Claim7.holds Tryd.pinned (.plain (OpenSpec.ofChange digestPadsSpec)) digestPadsCard

/-- THE TIED CARD OF 'tipstafflaw01.DigestJoins'. -/
def digestJoinsCard : Claim7 := { stood := { row := digestJoinsRow, standIns := [], harness := (true, "87e4fdc079da6ff06827878fc592c1ef6200f5e5f04abbf299c988315fe7898c"), looks := false }, kinds := [], alts := [], laidByText := true, laidKinds := [.data, .data], laidTests := true, laidLooks := .later }
def DigestJoinsCardSaid : Prop := Claim7.holds Tryd.pinned (.plain (OpenSpec.ofChange digestJoinsSpec)) digestJoinsCard

/-- THE TIED CARD OF 'tipstafflaw01.DigestParts'. -/
def digestPartsCard : Claim7 := { stood := { row := digestPartsRow, standIns := [], harness := (true, "87e4fdc079da6ff06827878fc592c1ef6200f5e5f04abbf299c988315fe7898c"), looks := false }, kinds := [], alts := [], laidByText := true, laidKinds := [.data, .data], laidTests := true, laidLooks := .later }
def DigestPartsCardSaid : Prop := Claim7.holds Tryd.pinned (.plain (OpenSpec.ofChange digestPartsSpec)) digestPartsCard

/-- THE SECOND FORM's CARD OF 'tipstafflaw01.DigestSums'. -/
def digestSumsUptoCard : Claim7 := { stood := { row := digestSumsUptoRow, standIns := [], harness := (true, "87e4fdc079da6ff06827878fc592c1ef6200f5e5f04abbf299c988315fe7898c"), looks := false }, kinds := [], alts := [], laidByText := true, laidKinds := [.data, .data], laidTests := true, laidLooks := .later }
def DigestSumsUptoCardSaid : Prop := Claim7.holds Tryd.pinned (.plain (OpenSpec.upto digestSumsSpec)) digestSumsUptoCard

/-- THE SECOND FORM's CARD OF 'tipstafflaw01.DigestPads'. -/
def digestPadsUptoCard : Claim7 := { stood := { row := digestPadsUptoRow, standIns := [], harness := (true, "87e4fdc079da6ff06827878fc592c1ef6200f5e5f04abbf299c988315fe7898c"), looks := false }, kinds := [], alts := [], laidByText := true, laidKinds := [.data, .data], laidTests := true, laidLooks := .later }
def DigestPadsUptoCardSaid : Prop := Claim7.holds Tryd.pinned (.plain (OpenSpec.upto digestPadsSpec)) digestPadsUptoCard

/-- THE SECOND FORM's CARD OF 'tipstafflaw01.DigestJoins'. -/
def digestJoinsUptoCard : Claim7 := { stood := { row := digestJoinsUptoRow, standIns := [], harness := (true, "87e4fdc079da6ff06827878fc592c1ef6200f5e5f04abbf299c988315fe7898c"), looks := false }, kinds := [], alts := [], laidByText := true, laidKinds := [.data, .data], laidTests := true, laidLooks := .later }
def DigestJoinsUptoCardSaid : Prop := Claim7.holds Tryd.pinned (.plain (OpenSpec.upto digestJoinsSpec)) digestJoinsUptoCard

/-- THE SECOND FORM's CARD OF 'tipstafflaw01.DigestParts'. -/
def digestPartsUptoCard : Claim7 := { stood := { row := digestPartsUptoRow, standIns := [], harness := (true, "87e4fdc079da6ff06827878fc592c1ef6200f5e5f04abbf299c988315fe7898c"), looks := false }, kinds := [], alts := [], laidByText := true, laidKinds := [.data, .data], laidTests := true, laidLooks := .later }
def DigestPartsUptoCardSaid : Prop := Claim7.holds Tryd.pinned (.plain (OpenSpec.upto digestPartsSpec)) digestPartsUptoCard
end Rows
end Go.Proofs.YtgpegjadjidjmaaDoor
