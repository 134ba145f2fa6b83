/-
  DERIVED. GIVEN WITH THE SEED: THE CARDS: each row of YtoggmegpodmfnaaGreatDoorRows.lean that lists a variable, with what it lists TIED to the program's text (the seventh form; the later family's looks); each row that meets fmt, with fmt's text TOLD by the authors' own Lean function (tested against real Go, not proved from fmt's source: count such statements apart). THE CARD IS WHAT COUNTS. Prove the row's statement (the work); the ties are given (YtoggmegpodmfnaaGreatDoorTie.lean); close each card by the builder's one call (the guide's Derived/Test/ToyasCard.lean, 'card_holds'). Laid BY PROGRAM, IN A SANDBOX (cutbox-door.mjs). By AI agents, Wed Nov 11 2026. No macro, syntax, notation, axiom, sorry.
-/
import Derived.Test.YtoggmegpodmfnaaGreatDoorRows
import GoSem.ClaimSeven
namespace Go.Proofs.YtoggmegpodmfnaaGreatDoor
namespace Rows

/-- THE TIED CARD OF 'thistlelaw02.SetsAll'. -/
def setsAllCard : Claim7 := { stood := { row := setsAllRow, standIns := [], harness := (true, "993612b74bc872ce9c9c9e828b2c4aa19f51d28826623b99dd2829a1d4f7479c"), looks := false }, kinds := [], alts := [], laidByText := true, laidKinds := [.data, .data, .data, .widerDeep], laidTests := true, laidLooks := .later }
def SetsAllCardSaid : Prop := Claim7.holds Tryz.pinned (.plain (OpenSpec.ofChange setsAllSpec)) setsAllCard

/-- THE TIED CARD OF 'thistlelaw02.SetsMemory'. -/
def setsMemoryCard : Claim7 := { stood := { row := setsMemoryRow, standIns := [], harness := (true, "993612b74bc872ce9c9c9e828b2c4aa19f51d28826623b99dd2829a1d4f7479c"), looks := false }, kinds := [], alts := [], laidByText := true, laidKinds := [.data, .data, .data, .widerDeep], laidTests := true, laidLooks := .later }
def SetsMemoryCardSaid : Prop := Claim7.holds Tryz.pinned (.plain (OpenSpec.ofChange setsMemorySpec)) setsMemoryCard

/-- THE SECOND FORM's CARD OF 'thistlelaw02.SetsAll'. -/
def setsAllUptoCard : Claim7 := { stood := { row := setsAllUptoRow, standIns := [], harness := (true, "993612b74bc872ce9c9c9e828b2c4aa19f51d28826623b99dd2829a1d4f7479c"), looks := false }, kinds := [], alts := [], laidByText := true, laidKinds := [.data, .data, .data, .widerDeep], laidTests := true, laidLooks := .later }
def SetsAllUptoCardSaid : Prop := Claim7.holds Tryz.pinned (.plain (OpenSpec.upto setsAllSpec)) setsAllUptoCard

/-- THE SECOND FORM's CARD OF 'thistlelaw02.SetsMemory'. -/
def setsMemoryUptoCard : Claim7 := { stood := { row := setsMemoryUptoRow, standIns := [], harness := (true, "993612b74bc872ce9c9c9e828b2c4aa19f51d28826623b99dd2829a1d4f7479c"), looks := false }, kinds := [], alts := [], laidByText := true, laidKinds := [.data, .data, .data, .widerDeep], laidTests := true, laidLooks := .later }
def SetsMemoryUptoCardSaid : Prop := Claim7.holds Tryz.pinned (.plain (OpenSpec.upto setsMemorySpec)) setsMemoryUptoCard
end Rows
end Go.Proofs.YtoggmegpodmfnaaGreatDoor
