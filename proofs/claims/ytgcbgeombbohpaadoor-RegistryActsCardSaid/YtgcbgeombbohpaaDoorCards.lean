/-
  DERIVED. GIVEN WITH THE SEED: THE CARDS: each row of YtgcbgeombbohpaaDoorRows.lean that lists a variable, with what it lists TIED to the program's text (the seventh form; the later family's looks); each row that meets fmt, with fmt's text TOLD by the authors' own Lean function (tested against real Go, not proved from fmt's source: count such statements apart). THE CARD IS WHAT COUNTS. Prove the row's statement (the work); the ties are given (YtgcbgeombbohpaaDoorTie.lean); close each card by the builder's one call (the guide's Derived/Test/ToyasCard.lean, 'card_holds'). Laid BY PROGRAM, IN A SANDBOX (cutbox-door.mjs). By AI agents, Wed Nov 11 2026. No macro, syntax, notation, axiom, sorry.
-/
import Derived.Test.YtgcbgeombbohpaaDoorRows
import GoSem.ClaimSeven
namespace Go.Proofs.YtgcbgeombbohpaaDoor
namespace Rows

/-- THE TIED CARD OF 'tipstafflaw03.RegistryOrder'. -/
def registryOrderCard : Claim7 := { stood := { row := registryOrderRow, standIns := [], harness := (true, "eb9de534ae4b3118d63e8071e0c17fe7c2dd526afac31e82507a17a9f01bb9fa"), looks := false }, kinds := [], alts := [], laidByText := true, laidKinds := [.data, .data], laidTests := true, laidLooks := .later }
def RegistryOrderCardSaid : Prop := Claim7.holds Tryd.pinned (.plain (OpenSpec.ofChange registryOrderSpec)) registryOrderCard

/-- THE TIED CARD OF 'tipstafflaw03.RegistryAgain'. -/
def registryAgainCard : Claim7 := { stood := { row := registryAgainRow, standIns := [], harness := (true, "eb9de534ae4b3118d63e8071e0c17fe7c2dd526afac31e82507a17a9f01bb9fa"), looks := false }, kinds := [], alts := [], laidByText := true, laidKinds := [.data, .data], laidTests := true, laidLooks := .later }
def RegistryAgainCardSaid : Prop := Claim7.holds Tryd.pinned (.plain (OpenSpec.ofChange registryAgainSpec)) registryAgainCard

/-- THE TIED CARD OF 'tipstafflaw03.RegistryActs'. -/
def registryActsCard : Claim7 := { stood := { row := registryActsRow, standIns := [], harness := (true, "eb9de534ae4b3118d63e8071e0c17fe7c2dd526afac31e82507a17a9f01bb9fa"), looks := false }, kinds := [], alts := [], laidByText := true, laidKinds := [.data, .data], laidTests := true, laidLooks := .later }
def RegistryActsCardSaid : Prop := Claim7.holds Tryd.pinned (.plain (OpenSpec.ofChange registryActsSpec)) registryActsCard

/-- THE TIED CARD OF 'tipstafflaw03.RegistryFull'. -/
def registryFullCard : Claim7 := { stood := { row := registryFullRow, standIns := [], harness := (true, "eb9de534ae4b3118d63e8071e0c17fe7c2dd526afac31e82507a17a9f01bb9fa"), looks := false }, kinds := [], alts := [], laidByText := true, laidKinds := [.data, .data], laidTests := true, laidLooks := .later }
def RegistryFullCardSaid : Prop := Claim7.holds Tryd.pinned (.plain (OpenSpec.ofChange registryFullSpec)) registryFullCard

/-- THE SECOND FORM's CARD OF 'tipstafflaw03.RegistryOrder'. -/
def registryOrderUptoCard : Claim7 := { stood := { row := registryOrderUptoRow, standIns := [], harness := (true, "eb9de534ae4b3118d63e8071e0c17fe7c2dd526afac31e82507a17a9f01bb9fa"), looks := false }, kinds := [], alts := [], laidByText := true, laidKinds := [.data, .data], laidTests := true, laidLooks := .later }
def RegistryOrderUptoCardSaid : Prop := Claim7.holds Tryd.pinned (.plain (OpenSpec.upto registryOrderSpec)) registryOrderUptoCard

/-- THE SECOND FORM's CARD OF 'tipstafflaw03.RegistryAgain'. -/
def registryAgainUptoCard : Claim7 := { stood := { row := registryAgainUptoRow, standIns := [], harness := (true, "eb9de534ae4b3118d63e8071e0c17fe7c2dd526afac31e82507a17a9f01bb9fa"), looks := false }, kinds := [], alts := [], laidByText := true, laidKinds := [.data, .data], laidTests := true, laidLooks := .later }
def RegistryAgainUptoCardSaid : Prop := Claim7.holds Tryd.pinned (.plain (OpenSpec.upto registryAgainSpec)) registryAgainUptoCard

/-- THE SECOND FORM's CARD OF 'tipstafflaw03.RegistryActs'. -/
def registryActsUptoCard : Claim7 := { stood := { row := registryActsUptoRow, standIns := [], harness := (true, "eb9de534ae4b3118d63e8071e0c17fe7c2dd526afac31e82507a17a9f01bb9fa"), looks := false }, kinds := [], alts := [], laidByText := true, laidKinds := [.data, .data], laidTests := true, laidLooks := .later }
def RegistryActsUptoCardSaid : Prop := Claim7.holds Tryd.pinned (.plain (OpenSpec.upto registryActsSpec)) registryActsUptoCard

/-- THE SECOND FORM's CARD OF 'tipstafflaw03.RegistryFull'. -/
def registryFullUptoCard : Claim7 := { stood := { row := registryFullUptoRow, standIns := [], harness := (true, "eb9de534ae4b3118d63e8071e0c17fe7c2dd526afac31e82507a17a9f01bb9fa"), looks := false }, kinds := [], alts := [], laidByText := true, laidKinds := [.data, .data], laidTests := true, laidLooks := .later }
def RegistryFullUptoCardSaid : Prop := Claim7.holds Tryd.pinned (.plain (OpenSpec.upto registryFullSpec)) registryFullUptoCard
end Rows
end Go.Proofs.YtgcbgeombbohpaaDoor
