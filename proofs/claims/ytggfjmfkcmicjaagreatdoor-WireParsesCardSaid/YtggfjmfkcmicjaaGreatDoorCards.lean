/-
  DERIVED. GIVEN WITH THE SEED: THE CARDS: each row of YtggfjmfkcmicjaaGreatDoorRows.lean that lists a variable, with what it lists TIED to the program's text (the seventh form; the later family's looks); each row that meets fmt, with fmt's text TOLD by the authors' own Lean function (tested against real Go, not proved from fmt's source: count such statements apart). THE CARD IS WHAT COUNTS. Prove the row's statement (the work); the ties are given (YtggfjmfkcmicjaaGreatDoorTie.lean); close each card by the builder's one call (the guide's Derived/Test/ToyasCard.lean, 'card_holds'). Laid BY PROGRAM, IN A SANDBOX (cutbox-door.mjs). By AI agents, Wed Nov 11 2026. No macro, syntax, notation, axiom, sorry.
-/
import Derived.Test.YtggfjmfkcmicjaaGreatDoorRows
import GoSem.ClaimSeven
namespace Go.Proofs.YtggfjmfkcmicjaaGreatDoor
namespace Rows

/-- THE TIED CARD OF 'diptychlaw12.WireCuts'. -/
def wireCutsCard : Claim7 := { stood := { row := wireCutsRow, standIns := [], harness := (true, "e4750070d272e5f65baf567af350841111c17aad79497604180016c04f5678fa"), looks := true }, kinds := [], alts := [], laidByText := true, laidKinds := [.data, .data, .data, .data, .sentinel, .sentinel, .pinned], laidTests := true, laidLooks := .later }
def WireCutsCardSaid : Prop := Claim7.holds Tryz.pinned (.plain (OpenSpec.ofChange wireCutsSpec)) wireCutsCard

/-- THE TIED CARD OF 'diptychlaw12.WireParses'. -/
def wireParsesCard : Claim7 := { stood := { row := wireParsesRow, standIns := [], harness := (true, "e4750070d272e5f65baf567af350841111c17aad79497604180016c04f5678fa"), looks := true }, kinds := [], alts := [], laidByText := true, laidKinds := [.data, .data, .data, .data, .sentinel, .sentinel, .pinned], laidTests := true, laidLooks := .later }
def WireParsesCardSaid : Prop := Claim7.holds Tryz.pinned (.plain (OpenSpec.ofChange wireParsesSpec)) wireParsesCard

/-- THE TIED CARD OF 'diptychlaw12.WireBack'. -/
def wireBackCard : Claim7 := { stood := { row := wireBackRow, standIns := [], harness := (true, "e4750070d272e5f65baf567af350841111c17aad79497604180016c04f5678fa"), looks := true }, kinds := [], alts := [], laidByText := true, laidKinds := [.data, .data, .data, .data, .sentinel, .sentinel, .pinned], laidTests := true, laidLooks := .later }
def WireBackCardSaid : Prop := Claim7.holds Tryz.pinned (.plain (OpenSpec.ofChange wireBackSpec)) wireBackCard

/-- THE TIED CARD OF 'diptychlaw12.WireRows'. -/
def wireRowsCard : Claim7 := { stood := { row := wireRowsRow, standIns := [], harness := (true, "e4750070d272e5f65baf567af350841111c17aad79497604180016c04f5678fa"), looks := true }, kinds := [], alts := [], laidByText := true, laidKinds := [.data, .data, .data, .data, .sentinel, .sentinel, .pinned], laidTests := true, laidLooks := .later }
def WireRowsCardSaid : Prop := Claim7.holds Tryz.pinned (.plain (OpenSpec.ofChange wireRowsSpec)) wireRowsCard

/-- THE SECOND FORM's CARD OF 'diptychlaw12.WireCuts'. -/
def wireCutsUptoCard : Claim7 := { stood := { row := wireCutsUptoRow, standIns := [], harness := (true, "e4750070d272e5f65baf567af350841111c17aad79497604180016c04f5678fa"), looks := true }, kinds := [], alts := [], laidByText := true, laidKinds := [.data, .data, .data, .data, .sentinel, .sentinel, .pinned], laidTests := true, laidLooks := .later }
def WireCutsUptoCardSaid : Prop := Claim7.holds Tryz.pinned (.plain (OpenSpec.upto wireCutsSpec)) wireCutsUptoCard

/-- THE SECOND FORM's CARD OF 'diptychlaw12.WireParses'. -/
def wireParsesUptoCard : Claim7 := { stood := { row := wireParsesUptoRow, standIns := [], harness := (true, "e4750070d272e5f65baf567af350841111c17aad79497604180016c04f5678fa"), looks := true }, kinds := [], alts := [], laidByText := true, laidKinds := [.data, .data, .data, .data, .sentinel, .sentinel, .pinned], laidTests := true, laidLooks := .later }
def WireParsesUptoCardSaid : Prop := Claim7.holds Tryz.pinned (.plain (OpenSpec.upto wireParsesSpec)) wireParsesUptoCard

/-- THE SECOND FORM's CARD OF 'diptychlaw12.WireBack'. -/
def wireBackUptoCard : Claim7 := { stood := { row := wireBackUptoRow, standIns := [], harness := (true, "e4750070d272e5f65baf567af350841111c17aad79497604180016c04f5678fa"), looks := true }, kinds := [], alts := [], laidByText := true, laidKinds := [.data, .data, .data, .data, .sentinel, .sentinel, .pinned], laidTests := true, laidLooks := .later }
def WireBackUptoCardSaid : Prop := Claim7.holds Tryz.pinned (.plain (OpenSpec.upto wireBackSpec)) wireBackUptoCard

/-- THE SECOND FORM's CARD OF 'diptychlaw12.WireRows'. -/
def wireRowsUptoCard : Claim7 := { stood := { row := wireRowsUptoRow, standIns := [], harness := (true, "e4750070d272e5f65baf567af350841111c17aad79497604180016c04f5678fa"), looks := true }, kinds := [], alts := [], laidByText := true, laidKinds := [.data, .data, .data, .data, .sentinel, .sentinel, .pinned], laidTests := true, laidLooks := .later }
def WireRowsUptoCardSaid : Prop := Claim7.holds Tryz.pinned (.plain (OpenSpec.upto wireRowsSpec)) wireRowsUptoCard
end Rows
end Go.Proofs.YtggfjmfkcmicjaaGreatDoor
