/-
  DERIVED. GIVEN WITH THE SEED: THE CARDS: each row of YtaipokmbgcmciaaDoorRows.lean that lists a variable, with what it lists TIED to the program's text (the seventh form; the later family's looks); each row that meets fmt, with fmt's text TOLD by the authors' own Lean function (tested against real Go, not proved from fmt's source: count such statements apart). THE CARD IS WHAT COUNTS. Prove the row's statement (the work); the ties are given (YtaipokmbgcmciaaDoorTie.lean); close each card by the builder's one call (the guide's Derived/Test/ToyasCard.lean, 'card_holds'). Laid BY PROGRAM, IN A SANDBOX (cutbox-door.mjs). By AI agents, Wed Nov 11 2026. No macro, syntax, notation, axiom, sorry.
-/
import Derived.Test.YtaipokmbgcmciaaDoorRows
import GoSem.ClaimSeven
namespace Go.Proofs.YtaipokmbgcmciaaDoor
namespace Rows

/-- THE TIED CARD OF 'thistlelaw01.UtfIters'. -/
def utfItersCard : Claim7 := { stood := { row := utfItersRow, standIns := [], harness := (true, "8eb75b8c72a716d27fae5520673375c340ae4639855343bff501059c29aacf54"), looks := false }, kinds := [], alts := [], laidByText := true, laidKinds := [.data, .pinned], laidTests := true, laidLooks := .later }
def UtfItersCardSaid : Prop := Claim7.holds Tryd.pinned (.plain (OpenSpec.ofChange utfItersSpec)) utfItersCard

/-- THE TIED CARD OF 'thistlelaw01.UtfRange'. -/
def utfRangeCard : Claim7 := { stood := { row := utfRangeRow, standIns := [], harness := (true, "8eb75b8c72a716d27fae5520673375c340ae4639855343bff501059c29aacf54"), looks := false }, kinds := [], alts := [], laidByText := true, laidKinds := [.data, .pinned], laidTests := true, laidLooks := .later }
def UtfRangeCardSaid : Prop := Claim7.holds Tryd.pinned (.plain (OpenSpec.ofChange utfRangeSpec)) utfRangeCard

/-- THE TIED CARD OF 'thistlelaw01.UtfBack'. -/
def utfBackCard : Claim7 := { stood := { row := utfBackRow, standIns := [], harness := (true, "8eb75b8c72a716d27fae5520673375c340ae4639855343bff501059c29aacf54"), looks := false }, kinds := [], alts := [], laidByText := true, laidKinds := [.data, .pinned], laidTests := true, laidLooks := .later }
def UtfBackCardSaid : Prop := Claim7.holds Tryd.pinned (.plain (OpenSpec.ofChange utfBackSpec)) utfBackCard

/-- THE TIED CARD OF 'thistlelaw01.UtfCuts'. -/
def utfCutsCard : Claim7 := { stood := { row := utfCutsRow, standIns := [], harness := (true, "8eb75b8c72a716d27fae5520673375c340ae4639855343bff501059c29aacf54"), looks := false }, kinds := [], alts := [], laidByText := true, laidKinds := [.data, .pinned], laidTests := true, laidLooks := .later }
def UtfCutsCardSaid : Prop := Claim7.holds Tryd.pinned (.plain (OpenSpec.ofChange utfCutsSpec)) utfCutsCard

/-- THE TIED CARD OF 'thistlelaw01.UtfPlays'. -/
def utfPlaysCard : Claim7 := { stood := { row := utfPlaysRow, standIns := [], harness := (true, "8eb75b8c72a716d27fae5520673375c340ae4639855343bff501059c29aacf54"), looks := false }, kinds := [], alts := [], laidByText := true, laidKinds := [.data, .pinned], laidTests := true, laidLooks := .later }
def UtfPlaysCardSaid : Prop := Claim7.holds Tryd.pinned (.plain (OpenSpec.ofChange utfPlaysSpec)) utfPlaysCard

/-- THE SECOND FORM's CARD OF 'thistlelaw01.UtfIters'. -/
def utfItersUptoCard : Claim7 := { stood := { row := utfItersUptoRow, standIns := [], harness := (true, "8eb75b8c72a716d27fae5520673375c340ae4639855343bff501059c29aacf54"), looks := false }, kinds := [], alts := [], laidByText := true, laidKinds := [.data, .pinned], laidTests := true, laidLooks := .later }
def UtfItersUptoCardSaid : Prop := Claim7.holds Tryd.pinned (.plain (OpenSpec.upto utfItersSpec)) utfItersUptoCard

/-- THE SECOND FORM's CARD OF 'thistlelaw01.UtfRange'. -/
def utfRangeUptoCard : Claim7 := { stood := { row := utfRangeUptoRow, standIns := [], harness := (true, "8eb75b8c72a716d27fae5520673375c340ae4639855343bff501059c29aacf54"), looks := false }, kinds := [], alts := [], laidByText := true, laidKinds := [.data, .pinned], laidTests := true, laidLooks := .later }
def UtfRangeUptoCardSaid : Prop := Claim7.holds Tryd.pinned (.plain (OpenSpec.upto utfRangeSpec)) utfRangeUptoCard

/-- THE SECOND FORM's CARD OF 'thistlelaw01.UtfBack'. -/
def utfBackUptoCard : Claim7 := { stood := { row := utfBackUptoRow, standIns := [], harness := (true, "8eb75b8c72a716d27fae5520673375c340ae4639855343bff501059c29aacf54"), looks := false }, kinds := [], alts := [], laidByText := true, laidKinds := [.data, .pinned], laidTests := true, laidLooks := .later }
def UtfBackUptoCardSaid : Prop := Claim7.holds Tryd.pinned (.plain (OpenSpec.upto utfBackSpec)) utfBackUptoCard

/-- THE SECOND FORM's CARD OF 'thistlelaw01.UtfCuts'. -/
def utfCutsUptoCard : Claim7 := { stood := { row := utfCutsUptoRow, standIns := [], harness := (true, "8eb75b8c72a716d27fae5520673375c340ae4639855343bff501059c29aacf54"), looks := false }, kinds := [], alts := [], laidByText := true, laidKinds := [.data, .pinned], laidTests := true, laidLooks := .later }
def UtfCutsUptoCardSaid : Prop := Claim7.holds Tryd.pinned (.plain (OpenSpec.upto utfCutsSpec)) utfCutsUptoCard

/-- THE SECOND FORM's CARD OF 'thistlelaw01.UtfPlays'. -/
def utfPlaysUptoCard : Claim7 := { stood := { row := utfPlaysUptoRow, standIns := [], harness := (true, "8eb75b8c72a716d27fae5520673375c340ae4639855343bff501059c29aacf54"), looks := false }, kinds := [], alts := [], laidByText := true, laidKinds := [.data, .pinned], laidTests := true, laidLooks := .later }
def UtfPlaysUptoCardSaid : Prop := Claim7.holds Tryd.pinned (.plain (OpenSpec.upto utfPlaysSpec)) utfPlaysUptoCard
end Rows
end Go.Proofs.YtaipokmbgcmciaaDoor
