/-
  NARROWER THAN 'FOR EVERY INPUT', by the rows' own cells (each row's printed sentence says how): QueueCan: laid · QueueReleases: laid · QueueExpires: laid · QueueStays: laid · QueueTells: laid.
  DERIVED. THE GIVEN ROWS OF THIS SEAT. 5 by the template 'for every input the law returns true; each argument reads behind the call as it read before'; 0 by the template 'total and deterministic' (their statements: YtelhpdnclmpgoaaDoorTotals.lean).
  GIVEN WITH THE SEED: the statements are not yours to turn. If you find one false, say at which input.
  Laid BY PROGRAM, IN A SANDBOX (cutbox-rows.mjs): the forced cells as the released guide's own fill.sh prints them over the translation a9f8a18a195b6904… (all of the seat's roots in one cut). By AI agents, Wed Nov 11 2026. No macro, syntax, notation, axiom, sorry.
-/
import Derived.Test.YtelhpdnclmpgoaaDoorChecked
import GoSem.PinnedTables
import GoSem.Claim
import GoSem.ClaimJoined
import GoSem.ClaimMapViews
import Derived.JoinedTies
import Derived.KernelRfl
namespace Go.Proofs.YtelhpdnclmpgoaaDoor
/- THE CELL 'sum', in the pinned program and in every row, IS THE sha256 OF THE DUMP (.gsa) THAT YtelhpdnclmpgoaaDoorProg.lean LOADS. Nothing in Lean hashes anything: it is a label: what it is worth is what the hold of that sum in a sandbox is worth. -/
noncomputable def Tryd.pinned : Pinned := { name := "ytelhpdnclmpgoaadoor", sum := "a9f8a18a195b69042c4a74939f16f476d38661486a3164a95307ff0993f2b63c", checked := Tryd.checked }
namespace Rows
def none {H : Type} : Left H := { results := [], args := [] }

/- WHAT THE LISTED PACKAGE-LEVEL VARIABLES READ AS WHEN THE CALL BEGINS. Each datum BY PROGRAM (the guide's laid-datum.mjs) off the statement by which the dump's own 'gosem.cut.vars' lays the variable. In a bare row this is a premise. The card (YtelhpdnclmpgoaaDoorCards.lean) ties it to the program's text. -/
def laid_unicode_utf8_acceptRanges {H : Type} : DataW H := .agg [.agg [.lit (.int .u8 128), .lit (.int .u8 191)], .agg [.lit (.int .u8 160), .lit (.int .u8 191)], .agg [.lit (.int .u8 128), .lit (.int .u8 159)], .agg [.lit (.int .u8 144), .lit (.int .u8 191)], .agg [.lit (.int .u8 128), .lit (.int .u8 143)], .agg [.lit (.int .u8 0), .lit (.int .u8 0)], .agg [.lit (.int .u8 0), .lit (.int .u8 0)], .agg [.lit (.int .u8 0), .lit (.int .u8 0)], .agg [.lit (.int .u8 0), .lit (.int .u8 0)], .agg [.lit (.int .u8 0), .lit (.int .u8 0)], .agg [.lit (.int .u8 0), .lit (.int .u8 0)], .agg [.lit (.int .u8 0), .lit (.int .u8 0)], .agg [.lit (.int .u8 0), .lit (.int .u8 0)], .agg [.lit (.int .u8 0), .lit (.int .u8 0)], .agg [.lit (.int .u8 0), .lit (.int .u8 0)], .agg [.lit (.int .u8 0), .lit (.int .u8 0)]]
/-- One of Go's own tables, pinned by name: the form's constant. -/
def laid_unicode_utf8_first : DataW Unit := Go.Pinned.utf8First

/-- 'trivetlaw10.QueueCan': WHATEVER THE INPUT: true; the input reads as it did. -/
def queueCanSpec : ChangeSpec := { name := "queueCan", fn := fun _ => fun
  | [d1, d2, d3] => { results := [.lit (.bool true)], args := [d1, d2, d3] }
  | _ => none }
def queueCanRow : OpenClaim := { program := "ytelhpdnclmpgoaadoor", sum := "a9f8a18a195b69042c4a74939f16f476d38661486a3164a95307ff0993f2b63c", func := "trivet/trivetlaw10.QueueCan", spec := "queueCan", inPlace := ["internal/bytealg.IndexByteString", "internal/bytealg.IndexString", "internal/bytealg.CountString", "math.Float64bits", "math.Float64frombits", "slices.overlaps[trivet/api.Item]"], unfollowed := true, recurses := true, named := ["unicode/utf8.first", "unicode/utf8.acceptRanges", "internal/bytealg.MaxLen"], apart := false, laid := [("unicode/utf8.acceptRanges", laid_unicode_utf8_acceptRanges), ("unicode/utf8.first", laid_unicode_utf8_first)] }
def QueueCanSaid : Prop := queueCanRow.holds Tryd.pinned (OpenSpec.ofChange queueCanSpec)

/-- ITS FALSE NEIGHBOUR: 'it returns false'. Refute it at one input. -/
def queueCanWrong : ChangeSpec := { name := "queueCan", fn := fun _ => fun
  | [d1, d2, d3] => { results := [.lit (.bool false)], args := [d1, d2, d3] }
  | _ => none }
def QueueCanWrongFalsely : Prop := queueCanRow.holds Tryd.pinned (OpenSpec.ofChange queueCanWrong)

/-- 'trivetlaw10.QueueReleases': WHATEVER THE INPUT: true; the input reads as it did. -/
def queueReleasesSpec : ChangeSpec := { name := "queueReleases", fn := fun _ => fun
  | [d1, d2] => { results := [.lit (.bool true)], args := [d1, d2] }
  | _ => none }
def queueReleasesRow : OpenClaim := { program := "ytelhpdnclmpgoaadoor", sum := "a9f8a18a195b69042c4a74939f16f476d38661486a3164a95307ff0993f2b63c", func := "trivet/trivetlaw10.QueueReleases", spec := "queueReleases", inPlace := ["internal/bytealg.IndexByteString", "internal/bytealg.IndexString", "internal/bytealg.CountString", "math.Float64bits", "math.Float64frombits", "slices.overlaps[trivet/api.Item]"], unfollowed := true, recurses := true, named := ["unicode/utf8.first", "unicode/utf8.acceptRanges", "internal/bytealg.MaxLen"], apart := false, laid := [("unicode/utf8.acceptRanges", laid_unicode_utf8_acceptRanges), ("unicode/utf8.first", laid_unicode_utf8_first)] }
def QueueReleasesSaid : Prop := queueReleasesRow.holds Tryd.pinned (OpenSpec.ofChange queueReleasesSpec)

/-- ITS FALSE NEIGHBOUR: 'it returns false'. Refute it at one input. -/
def queueReleasesWrong : ChangeSpec := { name := "queueReleases", fn := fun _ => fun
  | [d1, d2] => { results := [.lit (.bool false)], args := [d1, d2] }
  | _ => none }
def QueueReleasesWrongFalsely : Prop := queueReleasesRow.holds Tryd.pinned (OpenSpec.ofChange queueReleasesWrong)

/-- 'trivetlaw10.QueueExpires': WHATEVER THE INPUT: true; the input reads as it did. -/
def queueExpiresSpec : ChangeSpec := { name := "queueExpires", fn := fun _ => fun
  | [d1, d2, d3] => { results := [.lit (.bool true)], args := [d1, d2, d3] }
  | _ => none }
def queueExpiresRow : OpenClaim := { program := "ytelhpdnclmpgoaadoor", sum := "a9f8a18a195b69042c4a74939f16f476d38661486a3164a95307ff0993f2b63c", func := "trivet/trivetlaw10.QueueExpires", spec := "queueExpires", inPlace := ["internal/bytealg.IndexByteString", "internal/bytealg.IndexString", "internal/bytealg.CountString", "math.Float64bits", "math.Float64frombits", "slices.overlaps[trivet/api.Item]"], unfollowed := true, recurses := true, named := ["unicode/utf8.first", "unicode/utf8.acceptRanges", "internal/bytealg.MaxLen"], apart := false, laid := [("unicode/utf8.acceptRanges", laid_unicode_utf8_acceptRanges), ("unicode/utf8.first", laid_unicode_utf8_first)] }
def QueueExpiresSaid : Prop := queueExpiresRow.holds Tryd.pinned (OpenSpec.ofChange queueExpiresSpec)

/-- ITS FALSE NEIGHBOUR: 'it returns false'. Refute it at one input. -/
def queueExpiresWrong : ChangeSpec := { name := "queueExpires", fn := fun _ => fun
  | [d1, d2, d3] => { results := [.lit (.bool false)], args := [d1, d2, d3] }
  | _ => none }
def QueueExpiresWrongFalsely : Prop := queueExpiresRow.holds Tryd.pinned (OpenSpec.ofChange queueExpiresWrong)

/-- 'trivetlaw10.QueueStays': WHATEVER THE INPUT: true; the input reads as it did. -/
def queueStaysSpec : ChangeSpec := { name := "queueStays", fn := fun _ => fun
  | [d1, d2] => { results := [.lit (.bool true)], args := [d1, d2] }
  | _ => none }
def queueStaysRow : OpenClaim := { program := "ytelhpdnclmpgoaadoor", sum := "a9f8a18a195b69042c4a74939f16f476d38661486a3164a95307ff0993f2b63c", func := "trivet/trivetlaw10.QueueStays", spec := "queueStays", inPlace := ["internal/bytealg.IndexByteString", "internal/bytealg.IndexString", "internal/bytealg.CountString", "math.Float64bits", "math.Float64frombits", "slices.overlaps[trivet/api.Item]"], unfollowed := true, recurses := true, named := ["unicode/utf8.first", "unicode/utf8.acceptRanges", "internal/bytealg.MaxLen"], apart := false, laid := [("unicode/utf8.acceptRanges", laid_unicode_utf8_acceptRanges), ("unicode/utf8.first", laid_unicode_utf8_first)] }
def QueueStaysSaid : Prop := queueStaysRow.holds Tryd.pinned (OpenSpec.ofChange queueStaysSpec)

/-- ITS FALSE NEIGHBOUR: 'it returns false'. Refute it at one input. -/
def queueStaysWrong : ChangeSpec := { name := "queueStays", fn := fun _ => fun
  | [d1, d2] => { results := [.lit (.bool false)], args := [d1, d2] }
  | _ => none }
def QueueStaysWrongFalsely : Prop := queueStaysRow.holds Tryd.pinned (OpenSpec.ofChange queueStaysWrong)

/-- 'trivetlaw10.QueueTells': WHATEVER THE INPUT: true; the input reads as it did. -/
def queueTellsSpec : ChangeSpec := { name := "queueTells", fn := fun _ => fun
  | [d1, d2] => { results := [.lit (.bool true)], args := [d1, d2] }
  | _ => none }
def queueTellsRow : OpenClaim := { program := "ytelhpdnclmpgoaadoor", sum := "a9f8a18a195b69042c4a74939f16f476d38661486a3164a95307ff0993f2b63c", func := "trivet/trivetlaw10.QueueTells", spec := "queueTells", inPlace := ["internal/bytealg.IndexByteString", "internal/bytealg.IndexString", "internal/bytealg.CountString", "math.Float64bits", "math.Float64frombits", "slices.overlaps[trivet/api.Item]"], unfollowed := true, recurses := true, named := ["unicode/utf8.first", "unicode/utf8.acceptRanges", "internal/bytealg.MaxLen"], apart := false, laid := [("unicode/utf8.acceptRanges", laid_unicode_utf8_acceptRanges), ("unicode/utf8.first", laid_unicode_utf8_first)] }
def QueueTellsSaid : Prop := queueTellsRow.holds Tryd.pinned (OpenSpec.ofChange queueTellsSpec)

/-- ITS FALSE NEIGHBOUR: 'it returns false'. Refute it at one input. -/
def queueTellsWrong : ChangeSpec := { name := "queueTells", fn := fun _ => fun
  | [d1, d2] => { results := [.lit (.bool false)], args := [d1, d2] }
  | _ => none }
def QueueTellsWrongFalsely : Prop := queueTellsRow.holds Tryd.pinned (OpenSpec.ofChange queueTellsWrong)

/- THE SECOND FORM. 'bulk': how many values and letters a reading holds, each counted each time it is reached (what is shared counts as often as it is met; a slice's spare places count too). A statement '..UptoSaid' is the law's where the arguments, and the package variables that the reading takes, are together of bulk at most 1048576: NARROWER than '..Said'. Prove '..Said' where nothing that the law and all that it calls make is longer than what came in: it says more and counts as full. Else prove '..UptoSaid'. A law counts once. -/
mutual
def uptoBulk {H : Type} : DataW H → Nat
  | .lit (.string bytes) => bytes.length + 1
  | .lit _ => 1
  | .nil => 1
  | .ptr d => uptoBulk d + 1
  | .slice elems spare => uptoBulkAll elems + uptoBulkAll spare + 1
  | .agg parts => uptoBulkAll parts + 1
  | .iface _ d => uptoBulk d + 1
  | .map entries => uptoBulkEntries entries + 1
  | .held _ => 1
def uptoBulkAll {H : Type} : List (DataW H) → Nat
  | [] => 0
  | d :: r => uptoBulk d + uptoBulkAll r
def uptoBulkEntries {H : Type} : List (Lit × DataW H) → Nat
  | [] => 0
  | x :: r => uptoBulkEntry x + uptoBulkEntries r
def uptoBulkEntry {H : Type} : Lit × DataW H → Nat
  | (.string bytes, d) => bytes.length + uptoBulk d + 1
  | (_, d) => uptoBulk d + 1
 end
def uptoSmall : (H : Type) → List (DataW H) → Bool := fun _ ds => decide (uptoBulkAll ds ≤ 1048576)
def OpenSpec.upto (s : _root_.Go.ChangeSpec) : _root_.Go.OpenSpec := { _root_.Go.OpenSpec.ofChange s with cond := some uptoSmall }

/-- 'trivetlaw10.QueueCan', WHERE WHAT IT READS IS OF BULK AT MOST 1048576: true; the input reads as it did. -/
def queueCanUptoRow : OpenClaim := { program := "ytelhpdnclmpgoaadoor", sum := "a9f8a18a195b69042c4a74939f16f476d38661486a3164a95307ff0993f2b63c", func := "trivet/trivetlaw10.QueueCan", spec := "queueCan", inPlace := ["internal/bytealg.IndexByteString", "internal/bytealg.IndexString", "internal/bytealg.CountString", "math.Float64bits", "math.Float64frombits", "slices.overlaps[trivet/api.Item]"], unfollowed := true, recurses := true, named := ["unicode/utf8.first", "unicode/utf8.acceptRanges", "internal/bytealg.MaxLen"], apart := false, laid := [("unicode/utf8.acceptRanges", laid_unicode_utf8_acceptRanges), ("unicode/utf8.first", laid_unicode_utf8_first)], narrowed := true }
def QueueCanUptoSaid : Prop := queueCanUptoRow.holds Tryd.pinned (OpenSpec.upto queueCanSpec)

/-- 'trivetlaw10.QueueReleases', WHERE WHAT IT READS IS OF BULK AT MOST 1048576: true; the input reads as it did. -/
def queueReleasesUptoRow : OpenClaim := { program := "ytelhpdnclmpgoaadoor", sum := "a9f8a18a195b69042c4a74939f16f476d38661486a3164a95307ff0993f2b63c", func := "trivet/trivetlaw10.QueueReleases", spec := "queueReleases", inPlace := ["internal/bytealg.IndexByteString", "internal/bytealg.IndexString", "internal/bytealg.CountString", "math.Float64bits", "math.Float64frombits", "slices.overlaps[trivet/api.Item]"], unfollowed := true, recurses := true, named := ["unicode/utf8.first", "unicode/utf8.acceptRanges", "internal/bytealg.MaxLen"], apart := false, laid := [("unicode/utf8.acceptRanges", laid_unicode_utf8_acceptRanges), ("unicode/utf8.first", laid_unicode_utf8_first)], narrowed := true }
def QueueReleasesUptoSaid : Prop := queueReleasesUptoRow.holds Tryd.pinned (OpenSpec.upto queueReleasesSpec)

/-- 'trivetlaw10.QueueExpires', WHERE WHAT IT READS IS OF BULK AT MOST 1048576: true; the input reads as it did. -/
def queueExpiresUptoRow : OpenClaim := { program := "ytelhpdnclmpgoaadoor", sum := "a9f8a18a195b69042c4a74939f16f476d38661486a3164a95307ff0993f2b63c", func := "trivet/trivetlaw10.QueueExpires", spec := "queueExpires", inPlace := ["internal/bytealg.IndexByteString", "internal/bytealg.IndexString", "internal/bytealg.CountString", "math.Float64bits", "math.Float64frombits", "slices.overlaps[trivet/api.Item]"], unfollowed := true, recurses := true, named := ["unicode/utf8.first", "unicode/utf8.acceptRanges", "internal/bytealg.MaxLen"], apart := false, laid := [("unicode/utf8.acceptRanges", laid_unicode_utf8_acceptRanges), ("unicode/utf8.first", laid_unicode_utf8_first)], narrowed := true }
def QueueExpiresUptoSaid : Prop := queueExpiresUptoRow.holds Tryd.pinned (OpenSpec.upto queueExpiresSpec)

/-- 'trivetlaw10.QueueStays', WHERE WHAT IT READS IS OF BULK AT MOST 1048576: true; the input reads as it did. -/
def queueStaysUptoRow : OpenClaim := { program := "ytelhpdnclmpgoaadoor", sum := "a9f8a18a195b69042c4a74939f16f476d38661486a3164a95307ff0993f2b63c", func := "trivet/trivetlaw10.QueueStays", spec := "queueStays", inPlace := ["internal/bytealg.IndexByteString", "internal/bytealg.IndexString", "internal/bytealg.CountString", "math.Float64bits", "math.Float64frombits", "slices.overlaps[trivet/api.Item]"], unfollowed := true, recurses := true, named := ["unicode/utf8.first", "unicode/utf8.acceptRanges", "internal/bytealg.MaxLen"], apart := false, laid := [("unicode/utf8.acceptRanges", laid_unicode_utf8_acceptRanges), ("unicode/utf8.first", laid_unicode_utf8_first)], narrowed := true }
def QueueStaysUptoSaid : Prop := queueStaysUptoRow.holds Tryd.pinned (OpenSpec.upto queueStaysSpec)

/-- 'trivetlaw10.QueueTells', WHERE WHAT IT READS IS OF BULK AT MOST 1048576: true; the input reads as it did. -/
def queueTellsUptoRow : OpenClaim := { program := "ytelhpdnclmpgoaadoor", sum := "a9f8a18a195b69042c4a74939f16f476d38661486a3164a95307ff0993f2b63c", func := "trivet/trivetlaw10.QueueTells", spec := "queueTells", inPlace := ["internal/bytealg.IndexByteString", "internal/bytealg.IndexString", "internal/bytealg.CountString", "math.Float64bits", "math.Float64frombits", "slices.overlaps[trivet/api.Item]"], unfollowed := true, recurses := true, named := ["unicode/utf8.first", "unicode/utf8.acceptRanges", "internal/bytealg.MaxLen"], apart := false, laid := [("unicode/utf8.acceptRanges", laid_unicode_utf8_acceptRanges), ("unicode/utf8.first", laid_unicode_utf8_first)], narrowed := true }
def QueueTellsUptoSaid : Prop := queueTellsUptoRow.holds Tryd.pinned (OpenSpec.upto queueTellsSpec)

end Rows
end Go.Proofs.YtelhpdnclmpgoaaDoor
