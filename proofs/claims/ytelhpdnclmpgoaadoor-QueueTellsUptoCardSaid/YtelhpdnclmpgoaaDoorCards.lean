/-
  DERIVED. GIVEN WITH THE SEED: THE CARDS: each row of YtelhpdnclmpgoaaDoorRows.lean that lists a variable, with what it lists TIED to the program's text (the seventh form; the later family's looks); each row that meets fmt, with fmt's text TOLD by the authors' own Lean function (tested against real Go, not proved from fmt's source: count such statements apart). THE CARD IS WHAT COUNTS. Prove the row's statement (the work); the ties are given (YtelhpdnclmpgoaaDoorTie.lean); close each card by the builder's one call (the guide's Derived/Test/ToyasCard.lean, 'card_holds'). Laid BY PROGRAM, IN A SANDBOX (cutbox-door.mjs). By AI agents, Wed Nov 11 2026. No macro, syntax, notation, axiom, sorry.
-/
import Derived.Test.YtelhpdnclmpgoaaDoorRows
import GoSem.ClaimSeven
namespace Go.Proofs.YtelhpdnclmpgoaaDoor
namespace Rows

/-- THE TIED CARD OF 'trivetlaw10.QueueCan'. -/
def queueCanCard : Claim7 := { stood := { row := queueCanRow, standIns := [], harness := (true, "81dc96662e6a3f4b93cc3f1c0823cc195afc78d6164847a80dae88b44d75970b"), looks := false }, kinds := [], alts := [], laidByText := true, laidKinds := [.data, .pinned], laidTests := true, laidLooks := .later }
def QueueCanCardSaid : Prop := Claim7.holds Tryd.pinned (.plain (OpenSpec.ofChange queueCanSpec)) queueCanCard

/-- THE TIED CARD OF 'trivetlaw10.QueueReleases'. -/
def queueReleasesCard : Claim7 := { stood := { row := queueReleasesRow, standIns := [], harness := (true, "81dc96662e6a3f4b93cc3f1c0823cc195afc78d6164847a80dae88b44d75970b"), looks := false }, kinds := [], alts := [], laidByText := true, laidKinds := [.data, .pinned], laidTests := true, laidLooks := .later }
def QueueReleasesCardSaid : Prop := Claim7.holds Tryd.pinned (.plain (OpenSpec.ofChange queueReleasesSpec)) queueReleasesCard

/-- THE TIED CARD OF 'trivetlaw10.QueueExpires'. -/
def queueExpiresCard : Claim7 := { stood := { row := queueExpiresRow, standIns := [], harness := (true, "81dc96662e6a3f4b93cc3f1c0823cc195afc78d6164847a80dae88b44d75970b"), looks := false }, kinds := [], alts := [], laidByText := true, laidKinds := [.data, .pinned], laidTests := true, laidLooks := .later }
def QueueExpiresCardSaid : Prop := Claim7.holds Tryd.pinned (.plain (OpenSpec.ofChange queueExpiresSpec)) queueExpiresCard

/-- THE TIED CARD OF 'trivetlaw10.QueueStays'. -/
def queueStaysCard : Claim7 := { stood := { row := queueStaysRow, standIns := [], harness := (true, "81dc96662e6a3f4b93cc3f1c0823cc195afc78d6164847a80dae88b44d75970b"), looks := false }, kinds := [], alts := [], laidByText := true, laidKinds := [.data, .pinned], laidTests := true, laidLooks := .later }
def QueueStaysCardSaid : Prop := Claim7.holds Tryd.pinned (.plain (OpenSpec.ofChange queueStaysSpec)) queueStaysCard

/-- THE TIED CARD OF 'trivetlaw10.QueueTells'. -/
def queueTellsCard : Claim7 := { stood := { row := queueTellsRow, standIns := [], harness := (true, "81dc96662e6a3f4b93cc3f1c0823cc195afc78d6164847a80dae88b44d75970b"), looks := false }, kinds := [], alts := [], laidByText := true, laidKinds := [.data, .pinned], laidTests := true, laidLooks := .later }
def QueueTellsCardSaid : Prop := Claim7.holds Tryd.pinned (.plain (OpenSpec.ofChange queueTellsSpec)) queueTellsCard

/-- THE SECOND FORM's CARD OF 'trivetlaw10.QueueCan'. -/
def queueCanUptoCard : Claim7 := { stood := { row := queueCanUptoRow, standIns := [], harness := (true, "81dc96662e6a3f4b93cc3f1c0823cc195afc78d6164847a80dae88b44d75970b"), looks := false }, kinds := [], alts := [], laidByText := true, laidKinds := [.data, .pinned], laidTests := true, laidLooks := .later }
def QueueCanUptoCardSaid : Prop := Claim7.holds Tryd.pinned (.plain (OpenSpec.upto queueCanSpec)) queueCanUptoCard

/-- THE SECOND FORM's CARD OF 'trivetlaw10.QueueReleases'. -/
def queueReleasesUptoCard : Claim7 := { stood := { row := queueReleasesUptoRow, standIns := [], harness := (true, "81dc96662e6a3f4b93cc3f1c0823cc195afc78d6164847a80dae88b44d75970b"), looks := false }, kinds := [], alts := [], laidByText := true, laidKinds := [.data, .pinned], laidTests := true, laidLooks := .later }
def QueueReleasesUptoCardSaid : Prop := Claim7.holds Tryd.pinned (.plain (OpenSpec.upto queueReleasesSpec)) queueReleasesUptoCard

/-- THE SECOND FORM's CARD OF 'trivetlaw10.QueueExpires'. -/
def queueExpiresUptoCard : Claim7 := { stood := { row := queueExpiresUptoRow, standIns := [], harness := (true, "81dc96662e6a3f4b93cc3f1c0823cc195afc78d6164847a80dae88b44d75970b"), looks := false }, kinds := [], alts := [], laidByText := true, laidKinds := [.data, .pinned], laidTests := true, laidLooks := .later }
def QueueExpiresUptoCardSaid : Prop := Claim7.holds Tryd.pinned (.plain (OpenSpec.upto queueExpiresSpec)) queueExpiresUptoCard

/-- THE SECOND FORM's CARD OF 'trivetlaw10.QueueStays'. -/
def queueStaysUptoCard : Claim7 := { stood := { row := queueStaysUptoRow, standIns := [], harness := (true, "81dc96662e6a3f4b93cc3f1c0823cc195afc78d6164847a80dae88b44d75970b"), looks := false }, kinds := [], alts := [], laidByText := true, laidKinds := [.data, .pinned], laidTests := true, laidLooks := .later }
def QueueStaysUptoCardSaid : Prop := Claim7.holds Tryd.pinned (.plain (OpenSpec.upto queueStaysSpec)) queueStaysUptoCard

/-- THE SECOND FORM's CARD OF 'trivetlaw10.QueueTells'. -/
def queueTellsUptoCard : Claim7 := { stood := { row := queueTellsUptoRow, standIns := [], harness := (true, "81dc96662e6a3f4b93cc3f1c0823cc195afc78d6164847a80dae88b44d75970b"), looks := false }, kinds := [], alts := [], laidByText := true, laidKinds := [.data, .pinned], laidTests := true, laidLooks := .later }
def QueueTellsUptoCardSaid : Prop := Claim7.holds Tryd.pinned (.plain (OpenSpec.upto queueTellsSpec)) queueTellsUptoCard
end Rows
end Go.Proofs.YtelhpdnclmpgoaaDoor
