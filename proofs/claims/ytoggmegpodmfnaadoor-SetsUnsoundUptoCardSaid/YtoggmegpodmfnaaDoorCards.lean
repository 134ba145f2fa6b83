/-
  DERIVED. GIVEN WITH THE SEED: THE CARDS: each row of YtoggmegpodmfnaaDoorRows.lean that lists a variable, with what it lists TIED to the program's text (the seventh form; the later family's looks); each row that meets fmt, with fmt's text TOLD by the authors' own Lean function (tested against real Go, not proved from fmt's source: count such statements apart). THE CARD IS WHAT COUNTS. Prove the row's statement (the work); the ties are given (YtoggmegpodmfnaaDoorTie.lean); close each card by the builder's one call (the guide's Derived/Test/ToyasCard.lean, 'card_holds'). Laid BY PROGRAM, IN A SANDBOX (cutbox-door.mjs). By AI agents, Wed Nov 11 2026. No macro, syntax, notation, axiom, sorry.
-/
import Derived.Test.YtoggmegpodmfnaaDoorRows
import GoSem.ClaimSeven
namespace Go.Proofs.YtoggmegpodmfnaaDoor
namespace Rows

/-- THE TIED CARD OF 'thistlelaw02.SetsMade'. -/
def setsMadeCard : Claim7 := { stood := { row := setsMadeRow, standIns := [], harness := (true, "4517f20a0415b55334a315cc76f5c248edc859446d36e74b9e5ae6b6048c2d31"), looks := false }, kinds := [], alts := [], laidByText := true, laidKinds := [.widerDeep], laidTests := true, laidLooks := .later }
def SetsMadeCardSaid : Prop := Claim7.holds Tryd.pinned (.plain (OpenSpec.ofChange setsMadeSpec)) setsMadeCard

/-- THE TIED CARD OF 'thistlelaw02.SetsPicks'. -/
def setsPicksCard : Claim7 := { stood := { row := setsPicksRow, standIns := [], harness := (true, "4517f20a0415b55334a315cc76f5c248edc859446d36e74b9e5ae6b6048c2d31"), looks := false }, kinds := [], alts := [], laidByText := true, laidKinds := [.widerDeep], laidTests := true, laidLooks := .later }
def SetsPicksCardSaid : Prop := Claim7.holds Tryd.pinned (.plain (OpenSpec.ofChange setsPicksSpec)) setsPicksCard

/-- THE TIED CARD OF 'thistlelaw02.SetsRing'. -/
def setsRingCard : Claim7 := { stood := { row := setsRingRow, standIns := [], harness := (true, "4517f20a0415b55334a315cc76f5c248edc859446d36e74b9e5ae6b6048c2d31"), looks := false }, kinds := [], alts := [], laidByText := true, laidKinds := [.widerDeep], laidTests := true, laidLooks := .later }
def SetsRingCardSaid : Prop := Claim7.holds Tryd.pinned (.plain (OpenSpec.ofChange setsRingSpec)) setsRingCard

/-- THE TIED CARD OF 'thistlelaw02.SetsParts'. -/
def setsPartsCard : Claim7 := { stood := { row := setsPartsRow, standIns := [], harness := (true, "4517f20a0415b55334a315cc76f5c248edc859446d36e74b9e5ae6b6048c2d31"), looks := false }, kinds := [], alts := [], laidByText := true, laidKinds := [.data, .data, .data, .widerDeep], laidTests := true, laidLooks := .later }
def SetsPartsCardSaid : Prop := Claim7.holds Tryd.pinned (.plain (OpenSpec.ofChange setsPartsSpec)) setsPartsCard

/-- THE TIED CARD OF 'thistlelaw02.SetsUnsound'. -/
def setsUnsoundCard : Claim7 := { stood := { row := setsUnsoundRow, standIns := [], harness := (true, "4517f20a0415b55334a315cc76f5c248edc859446d36e74b9e5ae6b6048c2d31"), looks := false }, kinds := [], alts := [], laidByText := true, laidKinds := [.data, .data, .data, .widerDeep], laidTests := true, laidLooks := .later }
def SetsUnsoundCardSaid : Prop := Claim7.holds Tryd.pinned (.plain (OpenSpec.ofChange setsUnsoundSpec)) setsUnsoundCard

/-- THE SECOND FORM's CARD OF 'thistlelaw02.SetsMade'. -/
def setsMadeUptoCard : Claim7 := { stood := { row := setsMadeUptoRow, standIns := [], harness := (true, "4517f20a0415b55334a315cc76f5c248edc859446d36e74b9e5ae6b6048c2d31"), looks := false }, kinds := [], alts := [], laidByText := true, laidKinds := [.widerDeep], laidTests := true, laidLooks := .later }
def SetsMadeUptoCardSaid : Prop := Claim7.holds Tryd.pinned (.plain (OpenSpec.upto setsMadeSpec)) setsMadeUptoCard

/-- THE SECOND FORM's CARD OF 'thistlelaw02.SetsPicks'. -/
def setsPicksUptoCard : Claim7 := { stood := { row := setsPicksUptoRow, standIns := [], harness := (true, "4517f20a0415b55334a315cc76f5c248edc859446d36e74b9e5ae6b6048c2d31"), looks := false }, kinds := [], alts := [], laidByText := true, laidKinds := [.widerDeep], laidTests := true, laidLooks := .later }
def SetsPicksUptoCardSaid : Prop := Claim7.holds Tryd.pinned (.plain (OpenSpec.upto setsPicksSpec)) setsPicksUptoCard

/-- THE SECOND FORM's CARD OF 'thistlelaw02.SetsRing'. -/
def setsRingUptoCard : Claim7 := { stood := { row := setsRingUptoRow, standIns := [], harness := (true, "4517f20a0415b55334a315cc76f5c248edc859446d36e74b9e5ae6b6048c2d31"), looks := false }, kinds := [], alts := [], laidByText := true, laidKinds := [.widerDeep], laidTests := true, laidLooks := .later }
def SetsRingUptoCardSaid : Prop := Claim7.holds Tryd.pinned (.plain (OpenSpec.upto setsRingSpec)) setsRingUptoCard

/-- THE SECOND FORM's CARD OF 'thistlelaw02.SetsParts'. -/
def setsPartsUptoCard : Claim7 := { stood := { row := setsPartsUptoRow, standIns := [], harness := (true, "4517f20a0415b55334a315cc76f5c248edc859446d36e74b9e5ae6b6048c2d31"), looks := false }, kinds := [], alts := [], laidByText := true, laidKinds := [.data, .data, .data, .widerDeep], laidTests := true, laidLooks := .later }
def SetsPartsUptoCardSaid : Prop := Claim7.holds Tryd.pinned (.plain (OpenSpec.upto setsPartsSpec)) setsPartsUptoCard

/-- THE SECOND FORM's CARD OF 'thistlelaw02.SetsUnsound'. -/
def setsUnsoundUptoCard : Claim7 := { stood := { row := setsUnsoundUptoRow, standIns := [], harness := (true, "4517f20a0415b55334a315cc76f5c248edc859446d36e74b9e5ae6b6048c2d31"), looks := false }, kinds := [], alts := [], laidByText := true, laidKinds := [.data, .data, .data, .widerDeep], laidTests := true, laidLooks := .later }
def SetsUnsoundUptoCardSaid : Prop := Claim7.holds Tryd.pinned (.plain (OpenSpec.upto setsUnsoundSpec)) setsUnsoundUptoCard
end Rows
end Go.Proofs.YtoggmegpodmfnaaDoor
