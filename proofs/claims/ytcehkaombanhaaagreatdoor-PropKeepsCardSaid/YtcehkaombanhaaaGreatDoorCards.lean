/-
  DERIVED. GIVEN WITH THE SEED: THE CARDS: each row of YtcehkaombanhaaaGreatDoorRows.lean that lists a variable, with what it lists TIED to the program's text (the seventh form; the later family's looks); each row that meets fmt, with fmt's text TOLD by the authors' own Lean function (tested against real Go, not proved from fmt's source: count such statements apart). THE CARD IS WHAT COUNTS. Prove the row's statement (the work); the ties are given (YtcehkaombanhaaaGreatDoorTie.lean); close each card by the builder's one call (the guide's Derived/Test/ToyasCard.lean, 'card_holds'). Laid BY PROGRAM, IN A SANDBOX (cutbox-door.mjs). By AI agents, Wed Nov 11 2026. No macro, syntax, notation, axiom, sorry.
-/
import Derived.Test.YtcehkaombanhaaaGreatDoorRows
import GoSem.ClaimSeven
namespace Go.Proofs.YtcehkaombanhaaaGreatDoor
namespace Rows

/-- THE TIED CARD OF 'trivetlaw07.PropOrders'. -/
def propOrdersCard : Claim7 := { stood := { row := propOrdersRow, standIns := [], harness := (true, "7576cdce3e92387b2df1c3974bda0e3e8cc872a7c3f6bb20014d32e2339271dd"), looks := true }, kinds := [], alts := [], laidByText := true, laidKinds := [.data, .data, .data, .data, .data, .pinned, .pinned, .pinned], laidTests := true, laidLooks := .later }
def PropOrdersCardSaid : Prop := Claim7.holds Tryz.pinned (.plain (OpenSpec.ofChange propOrdersSpec)) propOrdersCard

/-- THE TIED CARD OF 'trivetlaw07.PropKeeps'. -/
def propKeepsCard : Claim7 := { stood := { row := propKeepsRow, standIns := [], harness := (true, "7576cdce3e92387b2df1c3974bda0e3e8cc872a7c3f6bb20014d32e2339271dd"), looks := true }, kinds := [], alts := [], laidByText := true, laidKinds := [.data, .data, .data, .data, .data, .pinned, .pinned, .pinned], laidTests := true, laidLooks := .later }
def PropKeepsCardSaid : Prop := Claim7.holds Tryz.pinned (.plain (OpenSpec.ofChange propKeepsSpec)) propKeepsCard

/-- THE TIED CARD OF 'trivetlaw07.PropSets'. -/
def propSetsCard : Claim7 := { stood := { row := propSetsRow, standIns := [], harness := (true, "7576cdce3e92387b2df1c3974bda0e3e8cc872a7c3f6bb20014d32e2339271dd"), looks := true }, kinds := [], alts := [], laidByText := true, laidKinds := [.data, .data, .data, .data, .data, .pinned, .pinned, .pinned], laidTests := true, laidLooks := .later }
def PropSetsCardSaid : Prop := Claim7.holds Tryz.pinned (.plain (OpenSpec.ofChange propSetsSpec)) propSetsCard

/-- THE TIED CARD OF 'trivetlaw07.PropValues'. -/
def propValuesCard : Claim7 := { stood := { row := propValuesRow, standIns := [], harness := (true, "7576cdce3e92387b2df1c3974bda0e3e8cc872a7c3f6bb20014d32e2339271dd"), looks := true }, kinds := [], alts := [], laidByText := true, laidKinds := [.data, .data, .widerDeep, .widerDeep, .data, .data, .data, .data, .data, .data, .sentinel, .sentinel, .pinned, .pinned, .pinned], laidTests := true, laidLooks := .later }
def PropValuesCardSaid : Prop := Claim7.holds Tryz.pinned (.plain (OpenSpec.ofChange propValuesSpec)) propValuesCard

/-- THE TIED CARD OF 'trivetlaw07.PropBack'. -/
def propBackCard : Claim7 := { stood := { row := propBackRow, standIns := [], harness := (true, "7576cdce3e92387b2df1c3974bda0e3e8cc872a7c3f6bb20014d32e2339271dd"), looks := true }, kinds := [], alts := [], laidByText := true, laidKinds := [.data, .data, .widerDeep, .widerDeep, .data, .data, .data, .data, .data, .data, .sentinel, .sentinel, .pinned, .pinned, .pinned], laidTests := true, laidLooks := .later }
def PropBackCardSaid : Prop := Claim7.holds Tryz.pinned (.plain (OpenSpec.ofChange propBackSpec)) propBackCard

/-- THE TIED CARD OF 'trivetlaw07.PropLists'. -/
def propListsCard : Claim7 := { stood := { row := propListsRow, standIns := [], harness := (true, "7576cdce3e92387b2df1c3974bda0e3e8cc872a7c3f6bb20014d32e2339271dd"), looks := true }, kinds := [], alts := [], laidByText := true, laidKinds := [.data, .data, .widerDeep, .widerDeep, .data, .data, .data, .data, .data, .data, .sentinel, .sentinel, .pinned, .pinned, .pinned], laidTests := true, laidLooks := .later }
def PropListsCardSaid : Prop := Claim7.holds Tryz.pinned (.plain (OpenSpec.ofChange propListsSpec)) propListsCard

/-- THE SECOND FORM's CARD OF 'trivetlaw07.PropOrders'. -/
def propOrdersUptoCard : Claim7 := { stood := { row := propOrdersUptoRow, standIns := [], harness := (true, "7576cdce3e92387b2df1c3974bda0e3e8cc872a7c3f6bb20014d32e2339271dd"), looks := true }, kinds := [], alts := [], laidByText := true, laidKinds := [.data, .data, .data, .data, .data, .pinned, .pinned, .pinned], laidTests := true, laidLooks := .later }
def PropOrdersUptoCardSaid : Prop := Claim7.holds Tryz.pinned (.plain (OpenSpec.upto propOrdersSpec)) propOrdersUptoCard

/-- THE SECOND FORM's CARD OF 'trivetlaw07.PropKeeps'. -/
def propKeepsUptoCard : Claim7 := { stood := { row := propKeepsUptoRow, standIns := [], harness := (true, "7576cdce3e92387b2df1c3974bda0e3e8cc872a7c3f6bb20014d32e2339271dd"), looks := true }, kinds := [], alts := [], laidByText := true, laidKinds := [.data, .data, .data, .data, .data, .pinned, .pinned, .pinned], laidTests := true, laidLooks := .later }
def PropKeepsUptoCardSaid : Prop := Claim7.holds Tryz.pinned (.plain (OpenSpec.upto propKeepsSpec)) propKeepsUptoCard

/-- THE SECOND FORM's CARD OF 'trivetlaw07.PropSets'. -/
def propSetsUptoCard : Claim7 := { stood := { row := propSetsUptoRow, standIns := [], harness := (true, "7576cdce3e92387b2df1c3974bda0e3e8cc872a7c3f6bb20014d32e2339271dd"), looks := true }, kinds := [], alts := [], laidByText := true, laidKinds := [.data, .data, .data, .data, .data, .pinned, .pinned, .pinned], laidTests := true, laidLooks := .later }
def PropSetsUptoCardSaid : Prop := Claim7.holds Tryz.pinned (.plain (OpenSpec.upto propSetsSpec)) propSetsUptoCard

/-- THE SECOND FORM's CARD OF 'trivetlaw07.PropValues'. -/
def propValuesUptoCard : Claim7 := { stood := { row := propValuesUptoRow, standIns := [], harness := (true, "7576cdce3e92387b2df1c3974bda0e3e8cc872a7c3f6bb20014d32e2339271dd"), looks := true }, kinds := [], alts := [], laidByText := true, laidKinds := [.data, .data, .widerDeep, .widerDeep, .data, .data, .data, .data, .data, .data, .sentinel, .sentinel, .pinned, .pinned, .pinned], laidTests := true, laidLooks := .later }
def PropValuesUptoCardSaid : Prop := Claim7.holds Tryz.pinned (.plain (OpenSpec.upto propValuesSpec)) propValuesUptoCard

/-- THE SECOND FORM's CARD OF 'trivetlaw07.PropBack'. -/
def propBackUptoCard : Claim7 := { stood := { row := propBackUptoRow, standIns := [], harness := (true, "7576cdce3e92387b2df1c3974bda0e3e8cc872a7c3f6bb20014d32e2339271dd"), looks := true }, kinds := [], alts := [], laidByText := true, laidKinds := [.data, .data, .widerDeep, .widerDeep, .data, .data, .data, .data, .data, .data, .sentinel, .sentinel, .pinned, .pinned, .pinned], laidTests := true, laidLooks := .later }
def PropBackUptoCardSaid : Prop := Claim7.holds Tryz.pinned (.plain (OpenSpec.upto propBackSpec)) propBackUptoCard

/-- THE SECOND FORM's CARD OF 'trivetlaw07.PropLists'. -/
def propListsUptoCard : Claim7 := { stood := { row := propListsUptoRow, standIns := [], harness := (true, "7576cdce3e92387b2df1c3974bda0e3e8cc872a7c3f6bb20014d32e2339271dd"), looks := true }, kinds := [], alts := [], laidByText := true, laidKinds := [.data, .data, .widerDeep, .widerDeep, .data, .data, .data, .data, .data, .data, .sentinel, .sentinel, .pinned, .pinned, .pinned], laidTests := true, laidLooks := .later }
def PropListsUptoCardSaid : Prop := Claim7.holds Tryz.pinned (.plain (OpenSpec.upto propListsSpec)) propListsUptoCard
end Rows
end Go.Proofs.YtcehkaombanhaaaGreatDoor
