/-
  DERIVED. GIVEN WITH THE SEED: THE CARDS: each row of YtbniandbmabdbaaDoorRows.lean that lists a variable, with what it lists TIED to the program's text (the seventh form; the later family's looks); each row that meets fmt, with fmt's text TOLD by the authors' own Lean function (tested against real Go, not proved from fmt's source: count such statements apart). THE CARD IS WHAT COUNTS. Prove the row's statement (the work); the ties are given (YtbniandbmabdbaaDoorTie.lean); close each card by the builder's one call (the guide's Derived/Test/ToyasCard.lean, 'card_holds'). Laid BY PROGRAM, IN A SANDBOX (cutbox-door.mjs). By AI agents, Wed Nov 11 2026. No macro, syntax, notation, axiom, sorry.
-/
import Derived.Test.YtbniandbmabdbaaDoorRows
import GoSem.ClaimSeven
namespace Go.Proofs.YtbniandbmabdbaaDoor
namespace Rows

/-- THE TIED CARD OF 'trivetlaw16.AframeFrames'. -/
def aframeFramesCard : Claim7 := { stood := { row := aframeFramesRow, standIns := [], harness := (true, "f97f3396d3392505f78a6d75dfe6cc814e41d259673947f33e9382227646d3f8"), looks := true }, kinds := [], alts := [], laidByText := true, laidKinds := [.data, .pinned], laidTests := true, laidLooks := .later }
def AframeFramesCardSaid : Prop := Claim7.holds Tryd.pinned (.plain (OpenSpec.ofChange aframeFramesSpec)) aframeFramesCard

/-- THE TIED CARD OF 'trivetlaw16.AframeChunks'. -/
def aframeChunksCard : Claim7 := { stood := { row := aframeChunksRow, standIns := [], harness := (true, "f97f3396d3392505f78a6d75dfe6cc814e41d259673947f33e9382227646d3f8"), looks := true }, kinds := [], alts := [], laidByText := true, laidKinds := [.data, .pinned], laidTests := true, laidLooks := .later }
def AframeChunksCardSaid : Prop := Claim7.holds Tryd.pinned (.plain (OpenSpec.ofChange aframeChunksSpec)) aframeChunksCard

/-- THE TIED CARD OF 'trivetlaw16.AframeBounds'. -/
def aframeBoundsCard : Claim7 := { stood := { row := aframeBoundsRow, standIns := [], harness := (true, "f97f3396d3392505f78a6d75dfe6cc814e41d259673947f33e9382227646d3f8"), looks := true }, kinds := [], alts := [], laidByText := true, laidKinds := [.data, .pinned], laidTests := true, laidLooks := .later }
def AframeBoundsCardSaid : Prop := Claim7.holds Tryd.pinned (.plain (OpenSpec.ofChange aframeBoundsSpec)) aframeBoundsCard

/-- THE TIED CARD OF 'trivetlaw16.AframeHeads'. -/
def aframeHeadsCard : Claim7 := { stood := { row := aframeHeadsRow, standIns := [], harness := (true, "f97f3396d3392505f78a6d75dfe6cc814e41d259673947f33e9382227646d3f8"), looks := true }, kinds := [], alts := [], laidByText := true, laidKinds := [.data, .pinned], laidTests := true, laidLooks := .later }
def AframeHeadsCardSaid : Prop := Claim7.holds Tryd.pinned (.plain (OpenSpec.ofChange aframeHeadsSpec)) aframeHeadsCard

/-- THE TIED CARD OF 'trivetlaw16.AframeBack'. -/
def aframeBackCard : Claim7 := { stood := { row := aframeBackRow, standIns := [], harness := (true, "f97f3396d3392505f78a6d75dfe6cc814e41d259673947f33e9382227646d3f8"), looks := true }, kinds := [], alts := [], laidByText := true, laidKinds := [.data, .pinned], laidTests := true, laidLooks := .later }
def AframeBackCardSaid : Prop := Claim7.holds Tryd.pinned (.plain (OpenSpec.ofChange aframeBackSpec)) aframeBackCard

/-- THE SECOND FORM's CARD OF 'trivetlaw16.AframeFrames'. -/
def aframeFramesUptoCard : Claim7 := { stood := { row := aframeFramesUptoRow, standIns := [], harness := (true, "f97f3396d3392505f78a6d75dfe6cc814e41d259673947f33e9382227646d3f8"), looks := true }, kinds := [], alts := [], laidByText := true, laidKinds := [.data, .pinned], laidTests := true, laidLooks := .later }
def AframeFramesUptoCardSaid : Prop := Claim7.holds Tryd.pinned (.plain (OpenSpec.upto aframeFramesSpec)) aframeFramesUptoCard

/-- THE SECOND FORM's CARD OF 'trivetlaw16.AframeChunks'. -/
def aframeChunksUptoCard : Claim7 := { stood := { row := aframeChunksUptoRow, standIns := [], harness := (true, "f97f3396d3392505f78a6d75dfe6cc814e41d259673947f33e9382227646d3f8"), looks := true }, kinds := [], alts := [], laidByText := true, laidKinds := [.data, .pinned], laidTests := true, laidLooks := .later }
def AframeChunksUptoCardSaid : Prop := Claim7.holds Tryd.pinned (.plain (OpenSpec.upto aframeChunksSpec)) aframeChunksUptoCard

/-- THE SECOND FORM's CARD OF 'trivetlaw16.AframeBounds'. -/
def aframeBoundsUptoCard : Claim7 := { stood := { row := aframeBoundsUptoRow, standIns := [], harness := (true, "f97f3396d3392505f78a6d75dfe6cc814e41d259673947f33e9382227646d3f8"), looks := true }, kinds := [], alts := [], laidByText := true, laidKinds := [.data, .pinned], laidTests := true, laidLooks := .later }
def AframeBoundsUptoCardSaid : Prop := Claim7.holds Tryd.pinned (.plain (OpenSpec.upto aframeBoundsSpec)) aframeBoundsUptoCard

/-- THE SECOND FORM's CARD OF 'trivetlaw16.AframeHeads'. -/
def aframeHeadsUptoCard : Claim7 := { stood := { row := aframeHeadsUptoRow, standIns := [], harness := (true, "f97f3396d3392505f78a6d75dfe6cc814e41d259673947f33e9382227646d3f8"), looks := true }, kinds := [], alts := [], laidByText := true, laidKinds := [.data, .pinned], laidTests := true, laidLooks := .later }
def AframeHeadsUptoCardSaid : Prop := Claim7.holds Tryd.pinned (.plain (OpenSpec.upto aframeHeadsSpec)) aframeHeadsUptoCard

/-- THE SECOND FORM's CARD OF 'trivetlaw16.AframeBack'. -/
def aframeBackUptoCard : Claim7 := { stood := { row := aframeBackUptoRow, standIns := [], harness := (true, "f97f3396d3392505f78a6d75dfe6cc814e41d259673947f33e9382227646d3f8"), looks := true }, kinds := [], alts := [], laidByText := true, laidKinds := [.data, .pinned], laidTests := true, laidLooks := .later }
def AframeBackUptoCardSaid : Prop := Claim7.holds Tryd.pinned (.plain (OpenSpec.upto aframeBackSpec)) aframeBackUptoCard
end Rows
end Go.Proofs.YtbniandbmabdbaaDoor
