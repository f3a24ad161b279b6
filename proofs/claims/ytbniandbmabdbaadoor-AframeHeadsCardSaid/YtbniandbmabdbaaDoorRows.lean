/-
  NARROWER THAN 'FOR EVERY INPUT', by the rows' own cells (each row's printed sentence says how): AframeFrames: laid · AframeChunks: laid · AframeBounds: laid · AframeHeads: laid · AframeBack: laid.
  DERIVED. THE GIVEN ROWS OF THIS SEAT. 5 by the template 'for every input the law returns true; each argument reads behind the call as it read before'; 0 by the template 'total and deterministic' (their statements: YtbniandbmabdbaaDoorTotals.lean).
  GIVEN WITH THE SEED: the statements are not yours to turn. If you find one false, say at which input.
  Laid BY PROGRAM, IN A SANDBOX (cutbox-rows.mjs): the forced cells as the released guide's own fill.sh prints them over the translation bbd30cfcc744df77… (all of the seat's roots in one cut). By AI agents, Wed Nov 11 2026. No macro, syntax, notation, axiom, sorry.
-/
import Derived.Test.YtbniandbmabdbaaDoorChecked
import GoSem.PinnedTables
import GoSem.Claim
import GoSem.ClaimJoined
import GoSem.ClaimMapViews
import Derived.JoinedTies
import Derived.KernelRfl
namespace Go.Proofs.YtbniandbmabdbaaDoor
/- THE CELL 'sum', in the pinned program and in every row, IS THE sha256 OF THE DUMP (.gsa) THAT YtbniandbmabdbaaDoorProg.lean LOADS. Nothing in Lean hashes anything: it is a label: what it is worth is what the hold of that sum in a sandbox is worth. -/
noncomputable def Tryd.pinned : Pinned := { name := "ytbniandbmabdbaadoor", sum := "bbd30cfcc744df77b56f17732cd942af7d8b982f8dddc7367a20e94ef086063d", checked := Tryd.checked }
namespace Rows
def none {H : Type} : Left H := { results := [], args := [] }

/- WHAT THE LISTED PACKAGE-LEVEL VARIABLES READ AS WHEN THE CALL BEGINS. Each datum BY PROGRAM (the guide's laid-datum.mjs) off the statement by which the dump's own 'gosem.cut.vars' lays the variable. In a bare row this is a premise. The card (YtbniandbmabdbaaDoorCards.lean) ties it to the program's text. -/
def laid_unicode_utf8_acceptRanges {H : Type} : DataW H := .agg [.agg [.lit (.int .u8 128), .lit (.int .u8 191)], .agg [.lit (.int .u8 160), .lit (.int .u8 191)], .agg [.lit (.int .u8 128), .lit (.int .u8 159)], .agg [.lit (.int .u8 144), .lit (.int .u8 191)], .agg [.lit (.int .u8 128), .lit (.int .u8 143)], .agg [.lit (.int .u8 0), .lit (.int .u8 0)], .agg [.lit (.int .u8 0), .lit (.int .u8 0)], .agg [.lit (.int .u8 0), .lit (.int .u8 0)], .agg [.lit (.int .u8 0), .lit (.int .u8 0)], .agg [.lit (.int .u8 0), .lit (.int .u8 0)], .agg [.lit (.int .u8 0), .lit (.int .u8 0)], .agg [.lit (.int .u8 0), .lit (.int .u8 0)], .agg [.lit (.int .u8 0), .lit (.int .u8 0)], .agg [.lit (.int .u8 0), .lit (.int .u8 0)], .agg [.lit (.int .u8 0), .lit (.int .u8 0)], .agg [.lit (.int .u8 0), .lit (.int .u8 0)]]
/-- One of Go's own tables, pinned by name: the form's constant. -/
def laid_unicode_utf8_first : DataW Unit := Go.Pinned.utf8First

/-- 'trivetlaw16.AframeFrames': WHATEVER THE INPUT: true; the input reads as it did. -/
def aframeFramesSpec : ChangeSpec := { name := "aframeFrames", fn := fun _ => fun
  | [d1, d2] => { results := [.lit (.bool true)], args := [d1, d2] }
  | _ => none }
def aframeFramesRow : OpenClaim := { program := "ytbniandbmabdbaadoor", sum := "bbd30cfcc744df77b56f17732cd942af7d8b982f8dddc7367a20e94ef086063d", func := "trivet/trivetlaw16.AframeFrames", spec := "aframeFrames", inPlace := ["internal/bytealg.IndexByteString", "internal/bytealg.IndexString", "math.Float64bits", "math.Float64frombits", "math.Float32bits"], named := ["unicode/utf8.first", "unicode/utf8.acceptRanges", "internal/bytealg.MaxLen"], apart := false, laid := [("unicode/utf8.acceptRanges", laid_unicode_utf8_acceptRanges), ("unicode/utf8.first", laid_unicode_utf8_first)] }
def AframeFramesSaid : Prop := aframeFramesRow.holds Tryd.pinned (OpenSpec.ofChange aframeFramesSpec)

/-- ITS FALSE NEIGHBOUR: 'it returns false'. Refute it at one input. -/
def aframeFramesWrong : ChangeSpec := { name := "aframeFrames", fn := fun _ => fun
  | [d1, d2] => { results := [.lit (.bool false)], args := [d1, d2] }
  | _ => none }
def AframeFramesWrongFalsely : Prop := aframeFramesRow.holds Tryd.pinned (OpenSpec.ofChange aframeFramesWrong)

/-- 'trivetlaw16.AframeChunks': WHATEVER THE INPUT: true; the input reads as it did. -/
def aframeChunksSpec : ChangeSpec := { name := "aframeChunks", fn := fun _ => fun
  | [d1, d2] => { results := [.lit (.bool true)], args := [d1, d2] }
  | _ => none }
def aframeChunksRow : OpenClaim := { program := "ytbniandbmabdbaadoor", sum := "bbd30cfcc744df77b56f17732cd942af7d8b982f8dddc7367a20e94ef086063d", func := "trivet/trivetlaw16.AframeChunks", spec := "aframeChunks", inPlace := ["internal/bytealg.IndexByteString", "internal/bytealg.IndexString", "math.Float64bits", "math.Float64frombits", "math.Float32bits"], named := ["unicode/utf8.first", "unicode/utf8.acceptRanges", "internal/bytealg.MaxLen"], apart := false, laid := [("unicode/utf8.acceptRanges", laid_unicode_utf8_acceptRanges), ("unicode/utf8.first", laid_unicode_utf8_first)] }
def AframeChunksSaid : Prop := aframeChunksRow.holds Tryd.pinned (OpenSpec.ofChange aframeChunksSpec)

/-- ITS FALSE NEIGHBOUR: 'it returns false'. Refute it at one input. -/
def aframeChunksWrong : ChangeSpec := { name := "aframeChunks", fn := fun _ => fun
  | [d1, d2] => { results := [.lit (.bool false)], args := [d1, d2] }
  | _ => none }
def AframeChunksWrongFalsely : Prop := aframeChunksRow.holds Tryd.pinned (OpenSpec.ofChange aframeChunksWrong)

/-- 'trivetlaw16.AframeBounds': WHATEVER THE INPUT: true; the input reads as it did. -/
def aframeBoundsSpec : ChangeSpec := { name := "aframeBounds", fn := fun _ => fun
  | [d] => { results := [.lit (.bool true)], args := [d] }
  | _ => none }
def aframeBoundsRow : OpenClaim := { program := "ytbniandbmabdbaadoor", sum := "bbd30cfcc744df77b56f17732cd942af7d8b982f8dddc7367a20e94ef086063d", func := "trivet/trivetlaw16.AframeBounds", spec := "aframeBounds", inPlace := ["internal/bytealg.IndexByteString", "internal/bytealg.IndexString", "math.Float64bits", "math.Float64frombits", "math.Float32bits"], named := ["unicode/utf8.first", "unicode/utf8.acceptRanges", "internal/bytealg.MaxLen"], apart := false, laid := [("unicode/utf8.acceptRanges", laid_unicode_utf8_acceptRanges), ("unicode/utf8.first", laid_unicode_utf8_first)] }
def AframeBoundsSaid : Prop := aframeBoundsRow.holds Tryd.pinned (OpenSpec.ofChange aframeBoundsSpec)

/-- ITS FALSE NEIGHBOUR: 'it returns false'. Refute it at one input. -/
def aframeBoundsWrong : ChangeSpec := { name := "aframeBounds", fn := fun _ => fun
  | [d] => { results := [.lit (.bool false)], args := [d] }
  | _ => none }
def AframeBoundsWrongFalsely : Prop := aframeBoundsRow.holds Tryd.pinned (OpenSpec.ofChange aframeBoundsWrong)

/-- 'trivetlaw16.AframeHeads': WHATEVER THE INPUT: true; the input reads as it did. -/
def aframeHeadsSpec : ChangeSpec := { name := "aframeHeads", fn := fun _ => fun
  | [d1, d2, d3] => { results := [.lit (.bool true)], args := [d1, d2, d3] }
  | _ => none }
def aframeHeadsRow : OpenClaim := { program := "ytbniandbmabdbaadoor", sum := "bbd30cfcc744df77b56f17732cd942af7d8b982f8dddc7367a20e94ef086063d", func := "trivet/trivetlaw16.AframeHeads", spec := "aframeHeads", inPlace := ["internal/bytealg.IndexByteString", "internal/bytealg.IndexString", "math.Float64bits", "math.Float64frombits", "math.Float32bits", "math.Float32frombits", "internal/bytealg.abigen_runtime_cmpstring"], unfollowed := true, recurses := true, named := ["unicode/utf8.first", "unicode/utf8.acceptRanges", "internal/bytealg.MaxLen"], apart := false, laid := [("unicode/utf8.acceptRanges", laid_unicode_utf8_acceptRanges), ("unicode/utf8.first", laid_unicode_utf8_first)] }
def AframeHeadsSaid : Prop := aframeHeadsRow.holds Tryd.pinned (OpenSpec.ofChange aframeHeadsSpec)

/-- ITS FALSE NEIGHBOUR: 'it returns false'. Refute it at one input. -/
def aframeHeadsWrong : ChangeSpec := { name := "aframeHeads", fn := fun _ => fun
  | [d1, d2, d3] => { results := [.lit (.bool false)], args := [d1, d2, d3] }
  | _ => none }
def AframeHeadsWrongFalsely : Prop := aframeHeadsRow.holds Tryd.pinned (OpenSpec.ofChange aframeHeadsWrong)

/-- 'trivetlaw16.AframeBack': WHATEVER THE INPUT: true; the input reads as it did. -/
def aframeBackSpec : ChangeSpec := { name := "aframeBack", fn := fun _ => fun
  | [d1, d2, d3] => { results := [.lit (.bool true)], args := [d1, d2, d3] }
  | _ => none }
def aframeBackRow : OpenClaim := { program := "ytbniandbmabdbaadoor", sum := "bbd30cfcc744df77b56f17732cd942af7d8b982f8dddc7367a20e94ef086063d", func := "trivet/trivetlaw16.AframeBack", spec := "aframeBack", inPlace := ["internal/bytealg.IndexByteString", "internal/bytealg.IndexString", "math.Float64bits", "math.Float64frombits", "math.Float32bits", "math.Float32frombits", "internal/bytealg.abigen_runtime_cmpstring"], unfollowed := true, recurses := true, named := ["unicode/utf8.first", "unicode/utf8.acceptRanges", "internal/bytealg.MaxLen"], apart := false, laid := [("unicode/utf8.acceptRanges", laid_unicode_utf8_acceptRanges), ("unicode/utf8.first", laid_unicode_utf8_first)] }
def AframeBackSaid : Prop := aframeBackRow.holds Tryd.pinned (OpenSpec.ofChange aframeBackSpec)

/-- ITS FALSE NEIGHBOUR: 'it returns false'. Refute it at one input. -/
def aframeBackWrong : ChangeSpec := { name := "aframeBack", fn := fun _ => fun
  | [d1, d2, d3] => { results := [.lit (.bool false)], args := [d1, d2, d3] }
  | _ => none }
def AframeBackWrongFalsely : Prop := aframeBackRow.holds Tryd.pinned (OpenSpec.ofChange aframeBackWrong)

/- THE SECOND FORM. 'bulk': how many values and letters a reading holds, each counted each time it is reached (what is shared counts as often as it is met; a slice's spare places count too). A statement '..UptoSaid' is the law's where the arguments, and the package variables that the reading takes, are together of bulk at most 1048576: NARROWER than '..Said'. Prove '..Said' where nothing that the law and all that it calls make is longer than what came in: it says more and counts as full. Else prove '..UptoSaid'. A law counts once. -/
mutual
def uptoBulk {H : Type} : DataW H → Nat
  | .lit (.string bytes) => bytes.length + 1
  | .lit _ => 1
  | .nil => 1
  | .ptr d => uptoBulk d + 1
  | .slice elems spare => uptoBulkAll elems + uptoBulkAll spare + 1
  | .agg parts => uptoBulkAll parts + 1
  | .iface _ d => uptoBulk d + 1
  | .map entries => uptoBulkEntries entries + 1
  | .held _ => 1
def uptoBulkAll {H : Type} : List (DataW H) → Nat
  | [] => 0
  | d :: r => uptoBulk d + uptoBulkAll r
def uptoBulkEntries {H : Type} : List (Lit × DataW H) → Nat
  | [] => 0
  | x :: r => uptoBulkEntry x + uptoBulkEntries r
def uptoBulkEntry {H : Type} : Lit × DataW H → Nat
  | (.string bytes, d) => bytes.length + uptoBulk d + 1
  | (_, d) => uptoBulk d + 1
 end
def uptoSmall : (H : Type) → List (DataW H) → Bool := fun _ ds => decide (uptoBulkAll ds ≤ 1048576)
def OpenSpec.upto (s : _root_.Go.ChangeSpec) : _root_.Go.OpenSpec := { _root_.Go.OpenSpec.ofChange s with cond := some uptoSmall }

/-- 'trivetlaw16.AframeFrames', WHERE WHAT IT READS IS OF BULK AT MOST 1048576: true; the input reads as it did. -/
def aframeFramesUptoRow : OpenClaim := { program := "ytbniandbmabdbaadoor", sum := "bbd30cfcc744df77b56f17732cd942af7d8b982f8dddc7367a20e94ef086063d", func := "trivet/trivetlaw16.AframeFrames", spec := "aframeFrames", inPlace := ["internal/bytealg.IndexByteString", "internal/bytealg.IndexString", "math.Float64bits", "math.Float64frombits", "math.Float32bits"], named := ["unicode/utf8.first", "unicode/utf8.acceptRanges", "internal/bytealg.MaxLen"], apart := false, laid := [("unicode/utf8.acceptRanges", laid_unicode_utf8_acceptRanges), ("unicode/utf8.first", laid_unicode_utf8_first)], narrowed := true }
def AframeFramesUptoSaid : Prop := aframeFramesUptoRow.holds Tryd.pinned (OpenSpec.upto aframeFramesSpec)

/-- 'trivetlaw16.AframeChunks', WHERE WHAT IT READS IS OF BULK AT MOST 1048576: true; the input reads as it did. -/
def aframeChunksUptoRow : OpenClaim := { program := "ytbniandbmabdbaadoor", sum := "bbd30cfcc744df77b56f17732cd942af7d8b982f8dddc7367a20e94ef086063d", func := "trivet/trivetlaw16.AframeChunks", spec := "aframeChunks", inPlace := ["internal/bytealg.IndexByteString", "internal/bytealg.IndexString", "math.Float64bits", "math.Float64frombits", "math.Float32bits"], named := ["unicode/utf8.first", "unicode/utf8.acceptRanges", "internal/bytealg.MaxLen"], apart := false, laid := [("unicode/utf8.acceptRanges", laid_unicode_utf8_acceptRanges), ("unicode/utf8.first", laid_unicode_utf8_first)], narrowed := true }
def AframeChunksUptoSaid : Prop := aframeChunksUptoRow.holds Tryd.pinned (OpenSpec.upto aframeChunksSpec)

/-- 'trivetlaw16.AframeBounds', WHERE WHAT IT READS IS OF BULK AT MOST 1048576: true; the input reads as it did. -/
def aframeBoundsUptoRow : OpenClaim := { program := "ytbniandbmabdbaadoor", sum := "bbd30cfcc744df77b56f17732cd942af7d8b982f8dddc7367a20e94ef086063d", func := "trivet/trivetlaw16.AframeBounds", spec := "aframeBounds", inPlace := ["internal/bytealg.IndexByteString", "internal/bytealg.IndexString", "math.Float64bits", "math.Float64frombits", "math.Float32bits"], named := ["unicode/utf8.first", "unicode/utf8.acceptRanges", "internal/bytealg.MaxLen"], apart := false, laid := [("unicode/utf8.acceptRanges", laid_unicode_utf8_acceptRanges), ("unicode/utf8.first", laid_unicode_utf8_first)], narrowed := true }
def AframeBoundsUptoSaid : Prop := aframeBoundsUptoRow.holds Tryd.pinned (OpenSpec.upto aframeBoundsSpec)

/-- 'trivetlaw16.AframeHeads', WHERE WHAT IT READS IS OF BULK AT MOST 1048576: true; the input reads as it did. -/
def aframeHeadsUptoRow : OpenClaim := { program := "ytbniandbmabdbaadoor", sum := "bbd30cfcc744df77b56f17732cd942af7d8b982f8dddc7367a20e94ef086063d", func := "trivet/trivetlaw16.AframeHeads", spec := "aframeHeads", inPlace := ["internal/bytealg.IndexByteString", "internal/bytealg.IndexString", "math.Float64bits", "math.Float64frombits", "math.Float32bits", "math.Float32frombits", "internal/bytealg.abigen_runtime_cmpstring"], unfollowed := true, recurses := true, named := ["unicode/utf8.first", "unicode/utf8.acceptRanges", "internal/bytealg.MaxLen"], apart := false, laid := [("unicode/utf8.acceptRanges", laid_unicode_utf8_acceptRanges), ("unicode/utf8.first", laid_unicode_utf8_first)], narrowed := true }
def AframeHeadsUptoSaid : Prop := aframeHeadsUptoRow.holds Tryd.pinned (OpenSpec.upto aframeHeadsSpec)

/-- 'trivetlaw16.AframeBack', WHERE WHAT IT READS IS OF BULK AT MOST 1048576: true; the input reads as it did. -/
def aframeBackUptoRow : OpenClaim := { program := "ytbniandbmabdbaadoor", sum := "bbd30cfcc744df77b56f17732cd942af7d8b982f8dddc7367a20e94ef086063d", func := "trivet/trivetlaw16.AframeBack", spec := "aframeBack", inPlace := ["internal/bytealg.IndexByteString", "internal/bytealg.IndexString", "math.Float64bits", "math.Float64frombits", "math.Float32bits", "math.Float32frombits", "internal/bytealg.abigen_runtime_cmpstring"], unfollowed := true, recurses := true, named := ["unicode/utf8.first", "unicode/utf8.acceptRanges", "internal/bytealg.MaxLen"], apart := false, laid := [("unicode/utf8.acceptRanges", laid_unicode_utf8_acceptRanges), ("unicode/utf8.first", laid_unicode_utf8_first)], narrowed := true }
def AframeBackUptoSaid : Prop := aframeBackUptoRow.holds Tryd.pinned (OpenSpec.upto aframeBackSpec)

end Rows
end Go.Proofs.YtbniandbmabdbaaDoor
