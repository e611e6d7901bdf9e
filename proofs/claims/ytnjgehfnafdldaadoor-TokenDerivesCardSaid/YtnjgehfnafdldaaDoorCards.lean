/-
  DERIVED. GIVEN WITH THE SEED: THE CARDS: each row of YtnjgehfnafdldaaDoorRows.lean that lists a variable, with what it lists TIED to the program's text (the seventh form; the later family's looks); each row that meets fmt, with fmt's text TOLD by the authors' own Lean function (tested against real Go, not proved from fmt's source: count such statements apart). THE CARD IS WHAT COUNTS. Prove the row's statement (the work); the ties are given (YtnjgehfnafdldaaDoorTie.lean); close each card by the builder's one call (the guide's Derived/Test/ToyasCard.lean, 'card_holds'). Laid BY PROGRAM, IN A SANDBOX (cutbox-door.mjs). By AI agents, Wed Nov 11 2026. No macro, syntax, notation, axiom, sorry.
-/
import Derived.Test.YtnjgehfnafdldaaDoorRows
import GoSem.ClaimSeven
namespace Go.Proofs.YtnjgehfnafdldaaDoor
namespace Rows

/-- THE TIED CARD OF 'tipstafflaw12.TokenDepth'. -/
def tokenDepthCard : Claim7 := { stood := { row := tokenDepthRow, standIns := [], harness := (true, "afc4eac763b354cf68aa598a2b9d2391b759112e7bbbe6277c5eecd440bc62ec"), looks := false }, kinds := [], alts := [], laidByText := true, laidKinds := [.widerDeep], laidTests := true, laidLooks := .later }
def TokenDepthCardSaid : Prop := Claim7.holds Tryd.pinned (.plain (OpenSpec.ofChange tokenDepthSpec)) tokenDepthCard

/-- THE TIED CARD OF 'tipstafflaw12.TokenForged'. -/
def tokenForgedCard : Claim7 := { stood := { row := tokenForgedRow, standIns := [], harness := (true, "afc4eac763b354cf68aa598a2b9d2391b759112e7bbbe6277c5eecd440bc62ec"), looks := false }, kinds := [], alts := [], laidByText := true, laidKinds := [.widerDeep], laidTests := true, laidLooks := .later }
def TokenForgedCardSaid : Prop := Claim7.holds Tryd.pinned (.plain (OpenSpec.ofChange tokenForgedSpec)) tokenForgedCard

/-- THE TIED CARD OF 'tipstafflaw12.TokenDerives'. -/
def tokenDerivesCard : Claim7 := { stood := { row := tokenDerivesRow, standIns := [], harness := (true, "afc4eac763b354cf68aa598a2b9d2391b759112e7bbbe6277c5eecd440bc62ec"), looks := false }, kinds := [], alts := [], laidByText := true, laidKinds := [.widerDeep], laidTests := true, laidLooks := .later }
def TokenDerivesCardSaid : Prop := Claim7.holds Tryd.pinned (.plain (OpenSpec.ofChange tokenDerivesSpec)) tokenDerivesCard

/-- THE TIED CARD OF 'tipstafflaw12.TokenInside'. -/
def tokenInsideCard : Claim7 := { stood := { row := tokenInsideRow, standIns := [], harness := (true, "afc4eac763b354cf68aa598a2b9d2391b759112e7bbbe6277c5eecd440bc62ec"), looks := false }, kinds := [], alts := [], laidByText := true, laidKinds := [.widerDeep], laidTests := true, laidLooks := .later }
def TokenInsideCardSaid : Prop := Claim7.holds Tryd.pinned (.plain (OpenSpec.ofChange tokenInsideSpec)) tokenInsideCard

/-- THE SECOND FORM's CARD OF 'tipstafflaw12.TokenDepth'. -/
def tokenDepthUptoCard : Claim7 := { stood := { row := tokenDepthUptoRow, standIns := [], harness := (true, "afc4eac763b354cf68aa598a2b9d2391b759112e7bbbe6277c5eecd440bc62ec"), looks := false }, kinds := [], alts := [], laidByText := true, laidKinds := [.widerDeep], laidTests := true, laidLooks := .later }
def TokenDepthUptoCardSaid : Prop := Claim7.holds Tryd.pinned (.plain (OpenSpec.upto tokenDepthSpec)) tokenDepthUptoCard

/-- THE SECOND FORM's CARD OF 'tipstafflaw12.TokenForged'. -/
def tokenForgedUptoCard : Claim7 := { stood := { row := tokenForgedUptoRow, standIns := [], harness := (true, "afc4eac763b354cf68aa598a2b9d2391b759112e7bbbe6277c5eecd440bc62ec"), looks := false }, kinds := [], alts := [], laidByText := true, laidKinds := [.widerDeep], laidTests := true, laidLooks := .later }
def TokenForgedUptoCardSaid : Prop := Claim7.holds Tryd.pinned (.plain (OpenSpec.upto tokenForgedSpec)) tokenForgedUptoCard

/-- THE SECOND FORM's CARD OF 'tipstafflaw12.TokenDerives'. -/
def tokenDerivesUptoCard : Claim7 := { stood := { row := tokenDerivesUptoRow, standIns := [], harness := (true, "afc4eac763b354cf68aa598a2b9d2391b759112e7bbbe6277c5eecd440bc62ec"), looks := false }, kinds := [], alts := [], laidByText := true, laidKinds := [.widerDeep], laidTests := true, laidLooks := .later }
def TokenDerivesUptoCardSaid : Prop := Claim7.holds Tryd.pinned (.plain (OpenSpec.upto tokenDerivesSpec)) tokenDerivesUptoCard

/-- THE SECOND FORM's CARD OF 'tipstafflaw12.TokenInside'. -/
def tokenInsideUptoCard : Claim7 := { stood := { row := tokenInsideUptoRow, standIns := [], harness := (true, "afc4eac763b354cf68aa598a2b9d2391b759112e7bbbe6277c5eecd440bc62ec"), looks := false }, kinds := [], alts := [], laidByText := true, laidKinds := [.widerDeep], laidTests := true, laidLooks := .later }
def TokenInsideUptoCardSaid : Prop := Claim7.holds Tryd.pinned (.plain (OpenSpec.upto tokenInsideSpec)) tokenInsideUptoCard
end Rows
end Go.Proofs.YtnjgehfnafdldaaDoor
