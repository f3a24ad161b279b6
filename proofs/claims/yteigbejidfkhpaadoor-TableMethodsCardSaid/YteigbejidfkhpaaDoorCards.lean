/-
  DERIVED. GIVEN WITH THE SEED: THE CARDS: each row of YteigbejidfkhpaaDoorRows.lean that lists a variable, with what it lists TIED to the program's text (the seventh form; the later family's looks); each row that meets fmt, with fmt's text TOLD by the authors' own Lean function (tested against real Go, not proved from fmt's source: count such statements apart). THE CARD IS WHAT COUNTS. Prove the row's statement (the work); the ties are given (YteigbejidfkhpaaDoorTie.lean); close each card by the builder's one call (the guide's Derived/Test/ToyasCard.lean, 'card_holds'). Laid BY PROGRAM, IN A SANDBOX (cutbox-door.mjs). By AI agents, Wed Nov 11 2026. No macro, syntax, notation, axiom, sorry.
-/
import Derived.Test.YteigbejidfkhpaaDoorRows
import GoSem.ClaimSeven
namespace Go.Proofs.YteigbejidfkhpaaDoor
namespace Rows

/-- THE TIED CARD OF 'trivetlaw15.TableTells'. -/
def tableTellsCard : Claim7 := { stood := { row := tableTellsRow, standIns := [], harness := (true, "cc476f43d41ec43a28ce6bd4d084af50b2f9c3939c33cdd9d83ff2638e6306c2"), looks := true }, kinds := [], alts := [], laidByText := true, laidKinds := [.data, .pinned], laidTests := true, laidLooks := .later }
def TableTellsCardSaid : Prop := Claim7.holds Tryd.pinned (.plain (OpenSpec.ofChange tableTellsSpec)) tableTellsCard

/-- THE TIED CARD OF 'trivetlaw15.TableTables'. -/
def tableTablesCard : Claim7 := { stood := { row := tableTablesRow, standIns := [], harness := (true, "cc476f43d41ec43a28ce6bd4d084af50b2f9c3939c33cdd9d83ff2638e6306c2"), looks := true }, kinds := [], alts := [], laidByText := true, laidKinds := [.data, .pinned], laidTests := true, laidLooks := .later }
def TableTablesCardSaid : Prop := Claim7.holds Tryd.pinned (.plain (OpenSpec.ofChange tableTablesSpec)) tableTablesCard

/-- THE TIED CARD OF 'trivetlaw15.TableWays'. -/
def tableWaysCard : Claim7 := { stood := { row := tableWaysRow, standIns := [], harness := (true, "cc476f43d41ec43a28ce6bd4d084af50b2f9c3939c33cdd9d83ff2638e6306c2"), looks := true }, kinds := [], alts := [], laidByText := true, laidKinds := [.data, .pinned], laidTests := true, laidLooks := .later }
def TableWaysCardSaid : Prop := Claim7.holds Tryd.pinned (.plain (OpenSpec.ofChange tableWaysSpec)) tableWaysCard

/-- THE TIED CARD OF 'trivetlaw15.TableMethods'. -/
def tableMethodsCard : Claim7 := { stood := { row := tableMethodsRow, standIns := [], harness := (true, "cc476f43d41ec43a28ce6bd4d084af50b2f9c3939c33cdd9d83ff2638e6306c2"), looks := true }, kinds := [], alts := [], laidByText := true, laidKinds := [.data, .pinned], laidTests := true, laidLooks := .later }
def TableMethodsCardSaid : Prop := Claim7.holds Tryd.pinned (.plain (OpenSpec.ofChange tableMethodsSpec)) tableMethodsCard

/-- THE TIED CARD OF 'trivetlaw15.TableKeeps'. -/
def tableKeepsCard : Claim7 := { stood := { row := tableKeepsRow, standIns := [], harness := (true, "cc476f43d41ec43a28ce6bd4d084af50b2f9c3939c33cdd9d83ff2638e6306c2"), looks := true }, kinds := [], alts := [], laidByText := true, laidKinds := [.data, .pinned], laidTests := true, laidLooks := .later }
def TableKeepsCardSaid : Prop := Claim7.holds Tryd.pinned (.plain (OpenSpec.ofChange tableKeepsSpec)) tableKeepsCard

/-- THE TIED CARD OF 'trivetlaw15.TableBack'. -/
def tableBackCard : Claim7 := { stood := { row := tableBackRow, standIns := [], harness := (true, "cc476f43d41ec43a28ce6bd4d084af50b2f9c3939c33cdd9d83ff2638e6306c2"), looks := true }, kinds := [], alts := [], laidByText := true, laidKinds := [.data, .pinned], laidTests := true, laidLooks := .later }
def TableBackCardSaid : Prop := Claim7.holds Tryd.pinned (.plain (OpenSpec.ofChange tableBackSpec)) tableBackCard

/-- THE SECOND FORM's CARD OF 'trivetlaw15.TableTells'. -/
def tableTellsUptoCard : Claim7 := { stood := { row := tableTellsUptoRow, standIns := [], harness := (true, "cc476f43d41ec43a28ce6bd4d084af50b2f9c3939c33cdd9d83ff2638e6306c2"), looks := true }, kinds := [], alts := [], laidByText := true, laidKinds := [.data, .pinned], laidTests := true, laidLooks := .later }
def TableTellsUptoCardSaid : Prop := Claim7.holds Tryd.pinned (.plain (OpenSpec.upto tableTellsSpec)) tableTellsUptoCard

/-- THE SECOND FORM's CARD OF 'trivetlaw15.TableTables'. -/
def tableTablesUptoCard : Claim7 := { stood := { row := tableTablesUptoRow, standIns := [], harness := (true, "cc476f43d41ec43a28ce6bd4d084af50b2f9c3939c33cdd9d83ff2638e6306c2"), looks := true }, kinds := [], alts := [], laidByText := true, laidKinds := [.data, .pinned], laidTests := true, laidLooks := .later }
def TableTablesUptoCardSaid : Prop := Claim7.holds Tryd.pinned (.plain (OpenSpec.upto tableTablesSpec)) tableTablesUptoCard

/-- THE SECOND FORM's CARD OF 'trivetlaw15.TableWays'. -/
def tableWaysUptoCard : Claim7 := { stood := { row := tableWaysUptoRow, standIns := [], harness := (true, "cc476f43d41ec43a28ce6bd4d084af50b2f9c3939c33cdd9d83ff2638e6306c2"), looks := true }, kinds := [], alts := [], laidByText := true, laidKinds := [.data, .pinned], laidTests := true, laidLooks := .later }
def TableWaysUptoCardSaid : Prop := Claim7.holds Tryd.pinned (.plain (OpenSpec.upto tableWaysSpec)) tableWaysUptoCard

/-- THE SECOND FORM's CARD OF 'trivetlaw15.TableMethods'. -/
def tableMethodsUptoCard : Claim7 := { stood := { row := tableMethodsUptoRow, standIns := [], harness := (true, "cc476f43d41ec43a28ce6bd4d084af50b2f9c3939c33cdd9d83ff2638e6306c2"), looks := true }, kinds := [], alts := [], laidByText := true, laidKinds := [.data, .pinned], laidTests := true, laidLooks := .later }
def TableMethodsUptoCardSaid : Prop := Claim7.holds Tryd.pinned (.plain (OpenSpec.upto tableMethodsSpec)) tableMethodsUptoCard

/-- THE SECOND FORM's CARD OF 'trivetlaw15.TableKeeps'. -/
def tableKeepsUptoCard : Claim7 := { stood := { row := tableKeepsUptoRow, standIns := [], harness := (true, "cc476f43d41ec43a28ce6bd4d084af50b2f9c3939c33cdd9d83ff2638e6306c2"), looks := true }, kinds := [], alts := [], laidByText := true, laidKinds := [.data, .pinned], laidTests := true, laidLooks := .later }
def TableKeepsUptoCardSaid : Prop := Claim7.holds Tryd.pinned (.plain (OpenSpec.upto tableKeepsSpec)) tableKeepsUptoCard

/-- THE SECOND FORM's CARD OF 'trivetlaw15.TableBack'. -/
def tableBackUptoCard : Claim7 := { stood := { row := tableBackUptoRow, standIns := [], harness := (true, "cc476f43d41ec43a28ce6bd4d084af50b2f9c3939c33cdd9d83ff2638e6306c2"), looks := true }, kinds := [], alts := [], laidByText := true, laidKinds := [.data, .pinned], laidTests := true, laidLooks := .later }
def TableBackUptoCardSaid : Prop := Claim7.holds Tryd.pinned (.plain (OpenSpec.upto tableBackSpec)) tableBackUptoCard
end Rows
end Go.Proofs.YteigbejidfkhpaaDoor
