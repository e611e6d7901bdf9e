/-
  DERIVED. GIVEN WITH THE SEED: THE CARDS: each row of YtbjkfgfiifnjoaaDoorRows.lean that lists a variable, with what it lists TIED to the program's text (the seventh form; the later family's looks); each row that meets fmt, with fmt's text TOLD by the authors' own Lean function (tested against real Go, not proved from fmt's source: count such statements apart). THE CARD IS WHAT COUNTS. Prove the row's statement (the work); the ties are given (YtbjkfgfiifnjoaaDoorTie.lean); close each card by the builder's one call (the guide's Derived/Test/ToyasCard.lean, 'card_holds'). Laid BY PROGRAM, IN A SANDBOX (cutbox-door.mjs). By AI agents, Wed Nov 11 2026. No macro, syntax, notation, axiom, sorry.
-/
import Derived.Test.YtbjkfgfiifnjoaaDoorRows
import GoSem.ClaimSeven
namespace Go.Proofs.YtbjkfgfiifnjoaaDoor
namespace Rows

/-- THE TIED CARD OF 'tipstafftop.TipstaffCanons'. -/
def tipstaffCanonsCard : Claim7 := { stood := { row := tipstaffCanonsRow, standIns := [], harness := (true, "68362192a40c9d8d6e843769475ab00dd6b5a18d4309a39aa4b86a9f5715f55a"), looks := true }, kinds := [], alts := [], laidByText := true, laidKinds := [.data, .data], laidTests := true, laidLooks := .later }
def TipstaffCanonsCardSaid : Prop := Claim7.holds Tryd.pinned (.plain (OpenSpec.ofChange tipstaffCanonsSpec)) tipstaffCanonsCard

/-- THE TIED CARD OF 'tipstafftop.TipstaffMaps'. -/
def tipstaffMapsCard : Claim7 := { stood := { row := tipstaffMapsRow, standIns := [], harness := (true, "68362192a40c9d8d6e843769475ab00dd6b5a18d4309a39aa4b86a9f5715f55a"), looks := true }, kinds := [], alts := [], laidByText := true, laidKinds := [.data, .data], laidTests := true, laidLooks := .later }
def TipstaffMapsCardSaid : Prop := Claim7.holds Tryd.pinned (.plain (OpenSpec.ofChange tipstaffMapsSpec)) tipstaffMapsCard

/-- THE TIED CARD OF 'tipstafftop.TipstaffShares'. -/
def tipstaffSharesCard : Claim7 := { stood := { row := tipstaffSharesRow, standIns := [], harness := (true, "68362192a40c9d8d6e843769475ab00dd6b5a18d4309a39aa4b86a9f5715f55a"), looks := true }, kinds := [], alts := [], laidByText := true, laidKinds := [.data, .data], laidTests := true, laidLooks := .later }
def TipstaffSharesCardSaid : Prop := Claim7.holds Tryd.pinned (.plain (OpenSpec.ofChange tipstaffSharesSpec)) tipstaffSharesCard

/-- THE TIED CARD OF 'tipstafftop.TipstaffDerives'. -/
def tipstaffDerivesCard : Claim7 := { stood := { row := tipstaffDerivesRow, standIns := [], harness := (true, "68362192a40c9d8d6e843769475ab00dd6b5a18d4309a39aa4b86a9f5715f55a"), looks := true }, kinds := [], alts := [], laidByText := true, laidKinds := [.data, .data, .data, .data, .data, .data, .sentinel, .sentinel, .pinned], laidTests := true, laidLooks := .later }
def TipstaffDerivesCardSaid : Prop := Claim7.holds Tryd.pinned (.plain (OpenSpec.ofChange tipstaffDerivesSpec)) tipstaffDerivesCard

/-- THE SECOND FORM's CARD OF 'tipstafftop.TipstaffCanons'. -/
def tipstaffCanonsUptoCard : Claim7 := { stood := { row := tipstaffCanonsUptoRow, standIns := [], harness := (true, "68362192a40c9d8d6e843769475ab00dd6b5a18d4309a39aa4b86a9f5715f55a"), looks := true }, kinds := [], alts := [], laidByText := true, laidKinds := [.data, .data], laidTests := true, laidLooks := .later }
def TipstaffCanonsUptoCardSaid : Prop := Claim7.holds Tryd.pinned (.plain (OpenSpec.upto tipstaffCanonsSpec)) tipstaffCanonsUptoCard

/-- THE SECOND FORM's CARD OF 'tipstafftop.TipstaffMaps'. -/
def tipstaffMapsUptoCard : Claim7 := { stood := { row := tipstaffMapsUptoRow, standIns := [], harness := (true, "68362192a40c9d8d6e843769475ab00dd6b5a18d4309a39aa4b86a9f5715f55a"), looks := true }, kinds := [], alts := [], laidByText := true, laidKinds := [.data, .data], laidTests := true, laidLooks := .later }
def TipstaffMapsUptoCardSaid : Prop := Claim7.holds Tryd.pinned (.plain (OpenSpec.upto tipstaffMapsSpec)) tipstaffMapsUptoCard

/-- THE SECOND FORM's CARD OF 'tipstafftop.TipstaffShares'. -/
def tipstaffSharesUptoCard : Claim7 := { stood := { row := tipstaffSharesUptoRow, standIns := [], harness := (true, "68362192a40c9d8d6e843769475ab00dd6b5a18d4309a39aa4b86a9f5715f55a"), looks := true }, kinds := [], alts := [], laidByText := true, laidKinds := [.data, .data], laidTests := true, laidLooks := .later }
def TipstaffSharesUptoCardSaid : Prop := Claim7.holds Tryd.pinned (.plain (OpenSpec.upto tipstaffSharesSpec)) tipstaffSharesUptoCard

/-- THE SECOND FORM's CARD OF 'tipstafftop.TipstaffDerives'. -/
def tipstaffDerivesUptoCard : Claim7 := { stood := { row := tipstaffDerivesUptoRow, standIns := [], harness := (true, "68362192a40c9d8d6e843769475ab00dd6b5a18d4309a39aa4b86a9f5715f55a"), looks := true }, kinds := [], alts := [], laidByText := true, laidKinds := [.data, .data, .data, .data, .data, .data, .sentinel, .sentinel, .pinned], laidTests := true, laidLooks := .later }
def TipstaffDerivesUptoCardSaid : Prop := Claim7.holds Tryd.pinned (.plain (OpenSpec.upto tipstaffDerivesSpec)) tipstaffDerivesUptoCard
end Rows
end Go.Proofs.YtbjkfgfiifnjoaaDoor
