/-
  DERIVED. GIVEN WITH THE SEED: THE CARDS: each row of YtndklgbjpdlegaaDoorRows.lean that lists a variable, with what it lists TIED to the program's text (the seventh form; the later family's looks); each row that meets fmt, with fmt's text TOLD by the authors' own Lean function (tested against real Go, not proved from fmt's source: count such statements apart). THE CARD IS WHAT COUNTS. Prove the row's statement (the work); the ties are given (YtndklgbjpdlegaaDoorTie.lean); close each card by the builder's one call (the guide's Derived/Test/ToyasCard.lean, 'card_holds'). Laid BY PROGRAM, IN A SANDBOX (cutbox-door.mjs). By AI agents, Wed Nov 11 2026. No macro, syntax, notation, axiom, sorry.
-/
import Derived.Test.YtndklgbjpdlegaaDoorRows
import GoSem.ClaimSeven
namespace Go.Proofs.YtndklgbjpdlegaaDoor
namespace Rows

/-- THE TIED CARD OF 'trivetlaw01.CordPuts'. -/
def cordPutsCard : Claim7 := { stood := { row := cordPutsRow, standIns := [], harness := (true, "31c3aeeb3b037c2af0af28c456b66f623bd70b89de793261275ace0a6ec06e59"), looks := true }, kinds := [], alts := [], laidByText := true, laidKinds := [.data, .data, .data, .sentinel, .sentinel], laidTests := true, laidLooks := .later }
def CordPutsCardSaid : Prop := Claim7.holds Tryd.pinned (.plain (OpenSpec.ofChange cordPutsSpec)) cordPutsCard

/-- THE TIED CARD OF 'trivetlaw01.CordTells'. -/
def cordTellsCard : Claim7 := { stood := { row := cordTellsRow, standIns := [], harness := (true, "31c3aeeb3b037c2af0af28c456b66f623bd70b89de793261275ace0a6ec06e59"), looks := true }, kinds := [], alts := [], laidByText := true, laidKinds := [.data, .data, .data, .sentinel, .sentinel], laidTests := true, laidLooks := .later }
def CordTellsCardSaid : Prop := Claim7.holds Tryd.pinned (.plain (OpenSpec.ofChange cordTellsSpec)) cordTellsCard

/-- THE TIED CARD OF 'trivetlaw01.CordKeeps'. -/
def cordKeepsCard : Claim7 := { stood := { row := cordKeepsRow, standIns := [], harness := (true, "31c3aeeb3b037c2af0af28c456b66f623bd70b89de793261275ace0a6ec06e59"), looks := true }, kinds := [], alts := [], laidByText := true, laidKinds := [.data, .data, .data, .sentinel, .sentinel], laidTests := true, laidLooks := .later }
def CordKeepsCardSaid : Prop := Claim7.holds Tryd.pinned (.plain (OpenSpec.ofChange cordKeepsSpec)) cordKeepsCard

/-- THE TIED CARD OF 'trivetlaw01.CordAnew'. -/
def cordAnewCard : Claim7 := { stood := { row := cordAnewRow, standIns := [], harness := (true, "31c3aeeb3b037c2af0af28c456b66f623bd70b89de793261275ace0a6ec06e59"), looks := true }, kinds := [], alts := [], laidByText := true, laidKinds := [.data, .data, .data, .sentinel, .sentinel], laidTests := true, laidLooks := .later }
def CordAnewCardSaid : Prop := Claim7.holds Tryd.pinned (.plain (OpenSpec.ofChange cordAnewSpec)) cordAnewCard

/-- THE TIED CARD OF 'trivetlaw01.CordBack'. -/
def cordBackCard : Claim7 := { stood := { row := cordBackRow, standIns := [], harness := (true, "31c3aeeb3b037c2af0af28c456b66f623bd70b89de793261275ace0a6ec06e59"), looks := true }, kinds := [], alts := [], laidByText := true, laidKinds := [.data, .data, .data, .sentinel, .sentinel], laidTests := true, laidLooks := .later }
def CordBackCardSaid : Prop := Claim7.holds Tryd.pinned (.plain (OpenSpec.ofChange cordBackSpec)) cordBackCard

/-- THE TIED CARD OF 'trivetlaw01.CordRows'. -/
def cordRowsCard : Claim7 := { stood := { row := cordRowsRow, standIns := [], harness := (true, "31c3aeeb3b037c2af0af28c456b66f623bd70b89de793261275ace0a6ec06e59"), looks := true }, kinds := [], alts := [], laidByText := true, laidKinds := [.data, .data, .data, .sentinel, .sentinel], laidTests := true, laidLooks := .later }
def CordRowsCardSaid : Prop := Claim7.holds Tryd.pinned (.plain (OpenSpec.ofChange cordRowsSpec)) cordRowsCard

/-- THE TIED CARD OF 'trivetlaw01.CordReads'. -/
def cordReadsCard : Claim7 := { stood := { row := cordReadsRow, standIns := [], harness := (true, "31c3aeeb3b037c2af0af28c456b66f623bd70b89de793261275ace0a6ec06e59"), looks := true }, kinds := [], alts := [], laidByText := true, laidKinds := [.data, .data, .data, .sentinel, .sentinel], laidTests := true, laidLooks := .later }
def CordReadsCardSaid : Prop := Claim7.holds Tryd.pinned (.plain (OpenSpec.ofChange cordReadsSpec)) cordReadsCard

/-- THE SECOND FORM's CARD OF 'trivetlaw01.CordPuts'. -/
def cordPutsUptoCard : Claim7 := { stood := { row := cordPutsUptoRow, standIns := [], harness := (true, "31c3aeeb3b037c2af0af28c456b66f623bd70b89de793261275ace0a6ec06e59"), looks := true }, kinds := [], alts := [], laidByText := true, laidKinds := [.data, .data, .data, .sentinel, .sentinel], laidTests := true, laidLooks := .later }
def CordPutsUptoCardSaid : Prop := Claim7.holds Tryd.pinned (.plain (OpenSpec.upto cordPutsSpec)) cordPutsUptoCard

/-- THE SECOND FORM's CARD OF 'trivetlaw01.CordTells'. -/
def cordTellsUptoCard : Claim7 := { stood := { row := cordTellsUptoRow, standIns := [], harness := (true, "31c3aeeb3b037c2af0af28c456b66f623bd70b89de793261275ace0a6ec06e59"), looks := true }, kinds := [], alts := [], laidByText := true, laidKinds := [.data, .data, .data, .sentinel, .sentinel], laidTests := true, laidLooks := .later }
def CordTellsUptoCardSaid : Prop := Claim7.holds Tryd.pinned (.plain (OpenSpec.upto cordTellsSpec)) cordTellsUptoCard

/-- THE SECOND FORM's CARD OF 'trivetlaw01.CordKeeps'. -/
def cordKeepsUptoCard : Claim7 := { stood := { row := cordKeepsUptoRow, standIns := [], harness := (true, "31c3aeeb3b037c2af0af28c456b66f623bd70b89de793261275ace0a6ec06e59"), looks := true }, kinds := [], alts := [], laidByText := true, laidKinds := [.data, .data, .data, .sentinel, .sentinel], laidTests := true, laidLooks := .later }
def CordKeepsUptoCardSaid : Prop := Claim7.holds Tryd.pinned (.plain (OpenSpec.upto cordKeepsSpec)) cordKeepsUptoCard

/-- THE SECOND FORM's CARD OF 'trivetlaw01.CordAnew'. -/
def cordAnewUptoCard : Claim7 := { stood := { row := cordAnewUptoRow, standIns := [], harness := (true, "31c3aeeb3b037c2af0af28c456b66f623bd70b89de793261275ace0a6ec06e59"), looks := true }, kinds := [], alts := [], laidByText := true, laidKinds := [.data, .data, .data, .sentinel, .sentinel], laidTests := true, laidLooks := .later }
def CordAnewUptoCardSaid : Prop := Claim7.holds Tryd.pinned (.plain (OpenSpec.upto cordAnewSpec)) cordAnewUptoCard

/-- THE SECOND FORM's CARD OF 'trivetlaw01.CordBack'. -/
def cordBackUptoCard : Claim7 := { stood := { row := cordBackUptoRow, standIns := [], harness := (true, "31c3aeeb3b037c2af0af28c456b66f623bd70b89de793261275ace0a6ec06e59"), looks := true }, kinds := [], alts := [], laidByText := true, laidKinds := [.data, .data, .data, .sentinel, .sentinel], laidTests := true, laidLooks := .later }
def CordBackUptoCardSaid : Prop := Claim7.holds Tryd.pinned (.plain (OpenSpec.upto cordBackSpec)) cordBackUptoCard

/-- THE SECOND FORM's CARD OF 'trivetlaw01.CordRows'. -/
def cordRowsUptoCard : Claim7 := { stood := { row := cordRowsUptoRow, standIns := [], harness := (true, "31c3aeeb3b037c2af0af28c456b66f623bd70b89de793261275ace0a6ec06e59"), looks := true }, kinds := [], alts := [], laidByText := true, laidKinds := [.data, .data, .data, .sentinel, .sentinel], laidTests := true, laidLooks := .later }
def CordRowsUptoCardSaid : Prop := Claim7.holds Tryd.pinned (.plain (OpenSpec.upto cordRowsSpec)) cordRowsUptoCard

/-- THE SECOND FORM's CARD OF 'trivetlaw01.CordReads'. -/
def cordReadsUptoCard : Claim7 := { stood := { row := cordReadsUptoRow, standIns := [], harness := (true, "31c3aeeb3b037c2af0af28c456b66f623bd70b89de793261275ace0a6ec06e59"), looks := true }, kinds := [], alts := [], laidByText := true, laidKinds := [.data, .data, .data, .sentinel, .sentinel], laidTests := true, laidLooks := .later }
def CordReadsUptoCardSaid : Prop := Claim7.holds Tryd.pinned (.plain (OpenSpec.upto cordReadsSpec)) cordReadsUptoCard
end Rows
end Go.Proofs.YtndklgbjpdlegaaDoor
