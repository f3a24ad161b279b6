/-
  DERIVED. GIVEN WITH THE SEED: THE CARDS: each row of YtfpdmgmolhddnaaDoorRows.lean that lists a variable, with what it lists TIED to the program's text (the seventh form; the later family's looks); each row that meets fmt, with fmt's text TOLD by the authors' own Lean function (tested against real Go, not proved from fmt's source: count such statements apart). THE CARD IS WHAT COUNTS. Prove the row's statement (the work); the ties are given (YtfpdmgmolhddnaaDoorTie.lean); close each card by the builder's one call (the guide's Derived/Test/ToyasCard.lean, 'card_holds'). Laid BY PROGRAM, IN A SANDBOX (cutbox-door.mjs). By AI agents, Wed Nov 11 2026. No macro, syntax, notation, axiom, sorry.
-/
import Derived.Test.YtfpdmgmolhddnaaDoorRows
import GoSem.ClaimSeven
namespace Go.Proofs.YtfpdmgmolhddnaaDoor
namespace Rows

/-- THE TIED CARD OF 'trivetlaw18.SframeOnce'. -/
def sframeOnceCard : Claim7 := { stood := { row := sframeOnceRow, standIns := [], harness := (true, "8b4d5be79e82a932d28c3cd329c8e20d9111559b787a728fbcd25b8731c6ab7c"), looks := true }, kinds := [], alts := [], laidByText := true, laidKinds := [.data, .data, .data, .data, .sentinel, .sentinel, .pinned], laidTests := true, laidLooks := .later }
def SframeOnceCardSaid : Prop := Claim7.holds Tryd.pinned (.plain (OpenSpec.ofChange sframeOnceSpec)) sframeOnceCard

/-- THE TIED CARD OF 'trivetlaw18.SframeGets'. -/
def sframeGetsCard : Claim7 := { stood := { row := sframeGetsRow, standIns := [], harness := (true, "8b4d5be79e82a932d28c3cd329c8e20d9111559b787a728fbcd25b8731c6ab7c"), looks := true }, kinds := [], alts := [], laidByText := true, laidKinds := [.data, .data, .data, .data, .sentinel, .sentinel, .pinned], laidTests := true, laidLooks := .later }
def SframeGetsCardSaid : Prop := Claim7.holds Tryd.pinned (.plain (OpenSpec.ofChange sframeGetsSpec)) sframeGetsCard

/-- THE SECOND FORM's CARD OF 'trivetlaw18.SframeOnce'. -/
def sframeOnceUptoCard : Claim7 := { stood := { row := sframeOnceUptoRow, standIns := [], harness := (true, "8b4d5be79e82a932d28c3cd329c8e20d9111559b787a728fbcd25b8731c6ab7c"), looks := true }, kinds := [], alts := [], laidByText := true, laidKinds := [.data, .data, .data, .data, .sentinel, .sentinel, .pinned], laidTests := true, laidLooks := .later }
def SframeOnceUptoCardSaid : Prop := Claim7.holds Tryd.pinned (.plain (OpenSpec.upto sframeOnceSpec)) sframeOnceUptoCard

/-- THE SECOND FORM's CARD OF 'trivetlaw18.SframeGets'. -/
def sframeGetsUptoCard : Claim7 := { stood := { row := sframeGetsUptoRow, standIns := [], harness := (true, "8b4d5be79e82a932d28c3cd329c8e20d9111559b787a728fbcd25b8731c6ab7c"), looks := true }, kinds := [], alts := [], laidByText := true, laidKinds := [.data, .data, .data, .data, .sentinel, .sentinel, .pinned], laidTests := true, laidLooks := .later }
def SframeGetsUptoCardSaid : Prop := Claim7.holds Tryd.pinned (.plain (OpenSpec.upto sframeGetsSpec)) sframeGetsUptoCard
end Rows
end Go.Proofs.YtfpdmgmolhddnaaDoor
