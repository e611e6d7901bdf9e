/-
  DERIVED. GIVEN WITH THE SEED: THE CARDS: each row of YtlgihbbcieceoaaDoorRows.lean that lists a variable, with what it lists TIED to the program's text (the seventh form; the later family's looks); each row that meets fmt, with fmt's text TOLD by the authors' own Lean function (tested against real Go, not proved from fmt's source: count such statements apart). THE CARD IS WHAT COUNTS. Prove the row's statement (the work); the ties are given (YtlgihbbcieceoaaDoorTie.lean); close each card by the builder's one call (the guide's Derived/Test/ToyasCard.lean, 'card_holds'). Laid BY PROGRAM, IN A SANDBOX (cutbox-door.mjs). By AI agents, Wed Nov 11 2026. No macro, syntax, notation, axiom, sorry.
-/
import Derived.Test.YtlgihbbcieceoaaDoorRows
import GoSem.ClaimSeven
namespace Go.Proofs.YtlgihbbcieceoaaDoor
namespace Rows

/-- THE TIED CARD OF 'tipstafflaw02.LamportSigns'. -/
def lamportSignsCard : Claim7 := { stood := { row := lamportSignsRow, standIns := [], harness := (true, "cfa2d42ba6d29f4d2f7367532d0c03376b63956a46625c43a5b40c33ac1c80a4"), looks := false }, kinds := [], alts := [], laidByText := true, laidKinds := [.data, .data], laidTests := true, laidLooks := .later }
def LamportSignsCardSaid : Prop := Claim7.holds Tryd.pinned (.plain (OpenSpec.ofChange lamportSignsSpec)) lamportSignsCard

/-- THE TIED CARD OF 'tipstafflaw02.LamportVerifies'. -/
def lamportVerifiesCard : Claim7 := { stood := { row := lamportVerifiesRow, standIns := [], harness := (true, "cfa2d42ba6d29f4d2f7367532d0c03376b63956a46625c43a5b40c33ac1c80a4"), looks := false }, kinds := [], alts := [], laidByText := true, laidKinds := [.data, .data], laidTests := true, laidLooks := .later }
def LamportVerifiesCardSaid : Prop := Claim7.holds Tryd.pinned (.plain (OpenSpec.ofChange lamportVerifiesSpec)) lamportVerifiesCard

/-- THE TIED CARD OF 'tipstafflaw02.LamportBents'. -/
def lamportBentsCard : Claim7 := { stood := { row := lamportBentsRow, standIns := [], harness := (true, "cfa2d42ba6d29f4d2f7367532d0c03376b63956a46625c43a5b40c33ac1c80a4"), looks := false }, kinds := [], alts := [], laidByText := true, laidKinds := [.data, .data], laidTests := true, laidLooks := .later }
def LamportBentsCardSaid : Prop := Claim7.holds Tryd.pinned (.plain (OpenSpec.ofChange lamportBentsSpec)) lamportBentsCard

/-- THE TIED CARD OF 'tipstafflaw02.LamportBits'. -/
def lamportBitsCard : Claim7 := { stood := { row := lamportBitsRow, standIns := [], harness := (true, "cfa2d42ba6d29f4d2f7367532d0c03376b63956a46625c43a5b40c33ac1c80a4"), looks := false }, kinds := [], alts := [], laidByText := true, laidKinds := [.data, .data], laidTests := true, laidLooks := .later }
def LamportBitsCardSaid : Prop := Claim7.holds Tryd.pinned (.plain (OpenSpec.ofChange lamportBitsSpec)) lamportBitsCard

/-- THE TIED CARD OF 'tipstafflaw02.LamportLengths'. -/
def lamportLengthsCard : Claim7 := { stood := { row := lamportLengthsRow, standIns := [], harness := (true, "cfa2d42ba6d29f4d2f7367532d0c03376b63956a46625c43a5b40c33ac1c80a4"), looks := false }, kinds := [], alts := [], laidByText := true, laidKinds := [.data, .data], laidTests := true, laidLooks := .later }
def LamportLengthsCardSaid : Prop := Claim7.holds Tryd.pinned (.plain (OpenSpec.ofChange lamportLengthsSpec)) lamportLengthsCard

/-- THE SECOND FORM's CARD OF 'tipstafflaw02.LamportSigns'. -/
def lamportSignsUptoCard : Claim7 := { stood := { row := lamportSignsUptoRow, standIns := [], harness := (true, "cfa2d42ba6d29f4d2f7367532d0c03376b63956a46625c43a5b40c33ac1c80a4"), looks := false }, kinds := [], alts := [], laidByText := true, laidKinds := [.data, .data], laidTests := true, laidLooks := .later }
def LamportSignsUptoCardSaid : Prop := Claim7.holds Tryd.pinned (.plain (OpenSpec.upto lamportSignsSpec)) lamportSignsUptoCard

/-- THE SECOND FORM's CARD OF 'tipstafflaw02.LamportVerifies'. -/
def lamportVerifiesUptoCard : Claim7 := { stood := { row := lamportVerifiesUptoRow, standIns := [], harness := (true, "cfa2d42ba6d29f4d2f7367532d0c03376b63956a46625c43a5b40c33ac1c80a4"), looks := false }, kinds := [], alts := [], laidByText := true, laidKinds := [.data, .data], laidTests := true, laidLooks := .later }
def LamportVerifiesUptoCardSaid : Prop := Claim7.holds Tryd.pinned (.plain (OpenSpec.upto lamportVerifiesSpec)) lamportVerifiesUptoCard

/-- THE SECOND FORM's CARD OF 'tipstafflaw02.LamportBents'. -/
def lamportBentsUptoCard : Claim7 := { stood := { row := lamportBentsUptoRow, standIns := [], harness := (true, "cfa2d42ba6d29f4d2f7367532d0c03376b63956a46625c43a5b40c33ac1c80a4"), looks := false }, kinds := [], alts := [], laidByText := true, laidKinds := [.data, .data], laidTests := true, laidLooks := .later }
def LamportBentsUptoCardSaid : Prop := Claim7.holds Tryd.pinned (.plain (OpenSpec.upto lamportBentsSpec)) lamportBentsUptoCard

/-- THE SECOND FORM's CARD OF 'tipstafflaw02.LamportBits'. -/
def lamportBitsUptoCard : Claim7 := { stood := { row := lamportBitsUptoRow, standIns := [], harness := (true, "cfa2d42ba6d29f4d2f7367532d0c03376b63956a46625c43a5b40c33ac1c80a4"), looks := false }, kinds := [], alts := [], laidByText := true, laidKinds := [.data, .data], laidTests := true, laidLooks := .later }
def LamportBitsUptoCardSaid : Prop := Claim7.holds Tryd.pinned (.plain (OpenSpec.upto lamportBitsSpec)) lamportBitsUptoCard

/-- THE SECOND FORM's CARD OF 'tipstafflaw02.LamportLengths'. -/
def lamportLengthsUptoCard : Claim7 := { stood := { row := lamportLengthsUptoRow, standIns := [], harness := (true, "cfa2d42ba6d29f4d2f7367532d0c03376b63956a46625c43a5b40c33ac1c80a4"), looks := false }, kinds := [], alts := [], laidByText := true, laidKinds := [.data, .data], laidTests := true, laidLooks := .later }
def LamportLengthsUptoCardSaid : Prop := Claim7.holds Tryd.pinned (.plain (OpenSpec.upto lamportLengthsSpec)) lamportLengthsUptoCard
end Rows
end Go.Proofs.YtlgihbbcieceoaaDoor
