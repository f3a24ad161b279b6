/-
  NARROWER THAN 'FOR EVERY INPUT', by the rows' own cells (each row's printed sentence says how): TableTells: laid · TableTables: laid · TableWays: laid · TableMethods: laid · TableKeeps: laid · TableBack: laid.
  DERIVED. THE GIVEN ROWS OF THIS SEAT. 6 by the template 'for every input the law returns true; each argument reads behind the call as it read before'; 0 by the template 'total and deterministic' (their statements: YteigbejidfkhpaaDoorTotals.lean).
  GIVEN WITH THE SEED: the statements are not yours to turn. If you find one false, say at which input.
  Laid BY PROGRAM, IN A SANDBOX (cutbox-rows.mjs): the forced cells as the released guide's own fill.sh prints them over the translation 1851306f0dd12c49… (all of the seat's roots in one cut). By AI agents, Wed Nov 11 2026. No macro, syntax, notation, axiom, sorry.
-/
import Derived.Test.YteigbejidfkhpaaDoorChecked
import GoSem.PinnedTables
import GoSem.Claim
import GoSem.ClaimJoined
import GoSem.ClaimMapViews
import Derived.JoinedTies
import Derived.KernelRfl
namespace Go.Proofs.YteigbejidfkhpaaDoor
/- THE CELL 'sum', in the pinned program and in every row, IS THE sha256 OF THE DUMP (.gsa) THAT YteigbejidfkhpaaDoorProg.lean LOADS. Nothing in Lean hashes anything: it is a label: what it is worth is what the hold of that sum in a sandbox is worth. -/
noncomputable def Tryd.pinned : Pinned := { name := "yteigbejidfkhpaadoor", sum := "1851306f0dd12c49cb3ebc6f1a55c2c97a674dc82fa580bef7961d31b15d24e7", checked := Tryd.checked }
namespace Rows
def none {H : Type} : Left H := { results := [], args := [] }

/- WHAT THE LISTED PACKAGE-LEVEL VARIABLES READ AS WHEN THE CALL BEGINS. Each datum BY PROGRAM (the guide's laid-datum.mjs) off the statement by which the dump's own 'gosem.cut.vars' lays the variable. In a bare row this is a premise. The card (YteigbejidfkhpaaDoorCards.lean) ties it to the program's text. -/
def laid_unicode_utf8_acceptRanges {H : Type} : DataW H := .agg [.agg [.lit (.int .u8 128), .lit (.int .u8 191)], .agg [.lit (.int .u8 160), .lit (.int .u8 191)], .agg [.lit (.int .u8 128), .lit (.int .u8 159)], .agg [.lit (.int .u8 144), .lit (.int .u8 191)], .agg [.lit (.int .u8 128), .lit (.int .u8 143)], .agg [.lit (.int .u8 0), .lit (.int .u8 0)], .agg [.lit (.int .u8 0), .lit (.int .u8 0)], .agg [.lit (.int .u8 0), .lit (.int .u8 0)], .agg [.lit (.int .u8 0), .lit (.int .u8 0)], .agg [.lit (.int .u8 0), .lit (.int .u8 0)], .agg [.lit (.int .u8 0), .lit (.int .u8 0)], .agg [.lit (.int .u8 0), .lit (.int .u8 0)], .agg [.lit (.int .u8 0), .lit (.int .u8 0)], .agg [.lit (.int .u8 0), .lit (.int .u8 0)], .agg [.lit (.int .u8 0), .lit (.int .u8 0)], .agg [.lit (.int .u8 0), .lit (.int .u8 0)]]
/-- One of Go's own tables, pinned by name: the form's constant. -/
def laid_unicode_utf8_first : DataW Unit := Go.Pinned.utf8First

/-- 'trivetlaw15.TableTells': WHATEVER THE INPUT: true; the input reads as it did. -/
def tableTellsSpec : ChangeSpec := { name := "tableTells", fn := fun _ => fun
  | [d1, d2] => { results := [.lit (.bool true)], args := [d1, d2] }
  | _ => none }
def tableTellsRow : OpenClaim := { program := "yteigbejidfkhpaadoor", sum := "1851306f0dd12c49cb3ebc6f1a55c2c97a674dc82fa580bef7961d31b15d24e7", func := "trivet/trivetlaw15.TableTells", spec := "tableTells", inPlace := ["internal/bytealg.IndexByteString", "internal/bytealg.IndexString", "math.Float64bits", "math.Float64frombits", "math.Float32bits"], named := ["unicode/utf8.first", "unicode/utf8.acceptRanges", "internal/bytealg.MaxLen"], apart := false, laid := [("unicode/utf8.acceptRanges", laid_unicode_utf8_acceptRanges), ("unicode/utf8.first", laid_unicode_utf8_first)] }
def TableTellsSaid : Prop := tableTellsRow.holds Tryd.pinned (OpenSpec.ofChange tableTellsSpec)

/-- ITS FALSE NEIGHBOUR: 'it returns false'. Refute it at one input. -/
def tableTellsWrong : ChangeSpec := { name := "tableTells", fn := fun _ => fun
  | [d1, d2] => { results := [.lit (.bool false)], args := [d1, d2] }
  | _ => none }
def TableTellsWrongFalsely : Prop := tableTellsRow.holds Tryd.pinned (OpenSpec.ofChange tableTellsWrong)

/-- 'trivetlaw15.TableTables': WHATEVER THE INPUT: true; the input reads as it did. -/
def tableTablesSpec : ChangeSpec := { name := "tableTables", fn := fun _ => fun
  | [d1, d2, d3] => { results := [.lit (.bool true)], args := [d1, d2, d3] }
  | _ => none }
def tableTablesRow : OpenClaim := { program := "yteigbejidfkhpaadoor", sum := "1851306f0dd12c49cb3ebc6f1a55c2c97a674dc82fa580bef7961d31b15d24e7", func := "trivet/trivetlaw15.TableTables", spec := "tableTables", inPlace := ["internal/bytealg.IndexByteString", "internal/bytealg.IndexString", "math.Float64bits", "math.Float64frombits", "math.Float32bits", "math.Float32frombits", "internal/bytealg.abigen_runtime_cmpstring"], unfollowed := true, recurses := true, named := ["unicode/utf8.first", "unicode/utf8.acceptRanges", "internal/bytealg.MaxLen"], apart := false, laid := [("unicode/utf8.acceptRanges", laid_unicode_utf8_acceptRanges), ("unicode/utf8.first", laid_unicode_utf8_first)] }
def TableTablesSaid : Prop := tableTablesRow.holds Tryd.pinned (OpenSpec.ofChange tableTablesSpec)

/-- ITS FALSE NEIGHBOUR: 'it returns false'. Refute it at one input. -/
def tableTablesWrong : ChangeSpec := { name := "tableTables", fn := fun _ => fun
  | [d1, d2, d3] => { results := [.lit (.bool false)], args := [d1, d2, d3] }
  | _ => none }
def TableTablesWrongFalsely : Prop := tableTablesRow.holds Tryd.pinned (OpenSpec.ofChange tableTablesWrong)

/-- 'trivetlaw15.TableWays': WHATEVER THE INPUT: true; the input reads as it did. -/
def tableWaysSpec : ChangeSpec := { name := "tableWays", fn := fun _ => fun
  | [d1, d2, d3] => { results := [.lit (.bool true)], args := [d1, d2, d3] }
  | _ => none }
def tableWaysRow : OpenClaim := { program := "yteigbejidfkhpaadoor", sum := "1851306f0dd12c49cb3ebc6f1a55c2c97a674dc82fa580bef7961d31b15d24e7", func := "trivet/trivetlaw15.TableWays", spec := "tableWays", inPlace := ["internal/bytealg.IndexByteString", "internal/bytealg.IndexString", "math.Float64bits", "math.Float64frombits", "math.Float32bits", "math.Float32frombits", "internal/bytealg.abigen_runtime_cmpstring"], unfollowed := true, recurses := true, named := ["unicode/utf8.first", "unicode/utf8.acceptRanges", "internal/bytealg.MaxLen"], apart := false, laid := [("unicode/utf8.acceptRanges", laid_unicode_utf8_acceptRanges), ("unicode/utf8.first", laid_unicode_utf8_first)] }
def TableWaysSaid : Prop := tableWaysRow.holds Tryd.pinned (OpenSpec.ofChange tableWaysSpec)

/-- ITS FALSE NEIGHBOUR: 'it returns false'. Refute it at one input. -/
def tableWaysWrong : ChangeSpec := { name := "tableWays", fn := fun _ => fun
  | [d1, d2, d3] => { results := [.lit (.bool false)], args := [d1, d2, d3] }
  | _ => none }
def TableWaysWrongFalsely : Prop := tableWaysRow.holds Tryd.pinned (OpenSpec.ofChange tableWaysWrong)

/-- 'trivetlaw15.TableMethods': WHATEVER THE INPUT: true; the input reads as it did. -/
def tableMethodsSpec : ChangeSpec := { name := "tableMethods", fn := fun _ => fun
  | [d1, d2] => { results := [.lit (.bool true)], args := [d1, d2] }
  | _ => none }
def tableMethodsRow : OpenClaim := { program := "yteigbejidfkhpaadoor", sum := "1851306f0dd12c49cb3ebc6f1a55c2c97a674dc82fa580bef7961d31b15d24e7", func := "trivet/trivetlaw15.TableMethods", spec := "tableMethods", inPlace := ["internal/bytealg.IndexByteString", "internal/bytealg.IndexString", "math.Float64bits", "math.Float64frombits", "math.Float32bits", "math.Float32frombits", "internal/bytealg.abigen_runtime_cmpstring"], unfollowed := true, recurses := true, named := ["unicode/utf8.first", "unicode/utf8.acceptRanges", "internal/bytealg.MaxLen"], apart := false, laid := [("unicode/utf8.acceptRanges", laid_unicode_utf8_acceptRanges), ("unicode/utf8.first", laid_unicode_utf8_first)] }
def TableMethodsSaid : Prop := tableMethodsRow.holds Tryd.pinned (OpenSpec.ofChange tableMethodsSpec)

/-- ITS FALSE NEIGHBOUR: 'it returns false'. Refute it at one input. -/
def tableMethodsWrong : ChangeSpec := { name := "tableMethods", fn := fun _ => fun
  | [d1, d2] => { results := [.lit (.bool false)], args := [d1, d2] }
  | _ => none }
def TableMethodsWrongFalsely : Prop := tableMethodsRow.holds Tryd.pinned (OpenSpec.ofChange tableMethodsWrong)

/-- 'trivetlaw15.TableKeeps': WHATEVER THE INPUT: true; the input reads as it did. -/
def tableKeepsSpec : ChangeSpec := { name := "tableKeeps", fn := fun _ => fun
  | [d1, d2] => { results := [.lit (.bool true)], args := [d1, d2] }
  | _ => none }
def tableKeepsRow : OpenClaim := { program := "yteigbejidfkhpaadoor", sum := "1851306f0dd12c49cb3ebc6f1a55c2c97a674dc82fa580bef7961d31b15d24e7", func := "trivet/trivetlaw15.TableKeeps", spec := "tableKeeps", inPlace := ["internal/bytealg.IndexByteString", "internal/bytealg.IndexString", "math.Float64bits", "math.Float64frombits", "math.Float32bits", "math.Float32frombits", "internal/bytealg.abigen_runtime_cmpstring"], unfollowed := true, recurses := true, named := ["unicode/utf8.first", "unicode/utf8.acceptRanges", "internal/bytealg.MaxLen"], apart := false, laid := [("unicode/utf8.acceptRanges", laid_unicode_utf8_acceptRanges), ("unicode/utf8.first", laid_unicode_utf8_first)] }
def TableKeepsSaid : Prop := tableKeepsRow.holds Tryd.pinned (OpenSpec.ofChange tableKeepsSpec)

/-- ITS FALSE NEIGHBOUR: 'it returns false'. Refute it at one input. -/
def tableKeepsWrong : ChangeSpec := { name := "tableKeeps", fn := fun _ => fun
  | [d1, d2] => { results := [.lit (.bool false)], args := [d1, d2] }
  | _ => none }
def TableKeepsWrongFalsely : Prop := tableKeepsRow.holds Tryd.pinned (OpenSpec.ofChange tableKeepsWrong)

/-- 'trivetlaw15.TableBack': WHATEVER THE INPUT: true; the input reads as it did. -/
def tableBackSpec : ChangeSpec := { name := "tableBack", fn := fun _ => fun
  | [d1, d2, d3] => { results := [.lit (.bool true)], args := [d1, d2, d3] }
  | _ => none }
def tableBackRow : OpenClaim := { program := "yteigbejidfkhpaadoor", sum := "1851306f0dd12c49cb3ebc6f1a55c2c97a674dc82fa580bef7961d31b15d24e7", func := "trivet/trivetlaw15.TableBack", spec := "tableBack", inPlace := ["internal/bytealg.IndexByteString", "internal/bytealg.IndexString", "math.Float64bits", "math.Float64frombits", "math.Float32bits", "math.Float32frombits", "internal/bytealg.abigen_runtime_cmpstring"], unfollowed := true, recurses := true, named := ["unicode/utf8.first", "unicode/utf8.acceptRanges", "internal/bytealg.MaxLen"], apart := false, laid := [("unicode/utf8.acceptRanges", laid_unicode_utf8_acceptRanges), ("unicode/utf8.first", laid_unicode_utf8_first)] }
def TableBackSaid : Prop := tableBackRow.holds Tryd.pinned (OpenSpec.ofChange tableBackSpec)

/-- ITS FALSE NEIGHBOUR: 'it returns false'. Refute it at one input. -/
def tableBackWrong : ChangeSpec := { name := "tableBack", fn := fun _ => fun
  | [d1, d2, d3] => { results := [.lit (.bool false)], args := [d1, d2, d3] }
  | _ => none }
def TableBackWrongFalsely : Prop := tableBackRow.holds Tryd.pinned (OpenSpec.ofChange tableBackWrong)

/- THE SECOND FORM. 'bulk': how many values and letters a reading holds, each counted each time it is reached (what is shared counts as often as it is met; a slice's spare places count too). A statement '..UptoSaid' is the law's where the arguments, and the package variables that the reading takes, are together of bulk at most 1048576: NARROWER than '..Said'. Prove '..Said' where nothing that the law and all that it calls make is longer than what came in: it says more and counts as full. Else prove '..UptoSaid'. A law counts once. -/
mutual
def uptoBulk {H : Type} : DataW H → Nat
  | .lit (.string bytes) => bytes.length + 1
  | .lit _ => 1
  | .nil => 1
  | .ptr d => uptoBulk d + 1
  | .slice elems spare => uptoBulkAll elems + uptoBulkAll spare + 1
  | .agg parts => uptoBulkAll parts + 1
  | .iface _ d => uptoBulk d + 1
  | .map entries => uptoBulkEntries entries + 1
  | .held _ => 1
def uptoBulkAll {H : Type} : List (DataW H) → Nat
  | [] => 0
  | d :: r => uptoBulk d + uptoBulkAll r
def uptoBulkEntries {H : Type} : List (Lit × DataW H) → Nat
  | [] => 0
  | x :: r => uptoBulkEntry x + uptoBulkEntries r
def uptoBulkEntry {H : Type} : Lit × DataW H → Nat
  | (.string bytes, d) => bytes.length + uptoBulk d + 1
  | (_, d) => uptoBulk d + 1
 end
def uptoSmall : (H : Type) → List (DataW H) → Bool := fun _ ds => decide (uptoBulkAll ds ≤ 1048576)
def OpenSpec.upto (s : _root_.Go.ChangeSpec) : _root_.Go.OpenSpec := { _root_.Go.OpenSpec.ofChange s with cond := some uptoSmall }

/-- 'trivetlaw15.TableTells', WHERE WHAT IT READS IS OF BULK AT MOST 1048576: true; the input reads as it did. -/
def tableTellsUptoRow : OpenClaim := { program := "yteigbejidfkhpaadoor", sum := "1851306f0dd12c49cb3ebc6f1a55c2c97a674dc82fa580bef7961d31b15d24e7", func := "trivet/trivetlaw15.TableTells", spec := "tableTells", inPlace := ["internal/bytealg.IndexByteString", "internal/bytealg.IndexString", "math.Float64bits", "math.Float64frombits", "math.Float32bits"], named := ["unicode/utf8.first", "unicode/utf8.acceptRanges", "internal/bytealg.MaxLen"], apart := false, laid := [("unicode/utf8.acceptRanges", laid_unicode_utf8_acceptRanges), ("unicode/utf8.first", laid_unicode_utf8_first)], narrowed := true }
def TableTellsUptoSaid : Prop := tableTellsUptoRow.holds Tryd.pinned (OpenSpec.upto tableTellsSpec)

/-- 'trivetlaw15.TableTables', WHERE WHAT IT READS IS OF BULK AT MOST 1048576: true; the input reads as it did. -/
def tableTablesUptoRow : OpenClaim := { program := "yteigbejidfkhpaadoor", sum := "1851306f0dd12c49cb3ebc6f1a55c2c97a674dc82fa580bef7961d31b15d24e7", func := "trivet/trivetlaw15.TableTables", spec := "tableTables", inPlace := ["internal/bytealg.IndexByteString", "internal/bytealg.IndexString", "math.Float64bits", "math.Float64frombits", "math.Float32bits", "math.Float32frombits", "internal/bytealg.abigen_runtime_cmpstring"], unfollowed := true, recurses := true, named := ["unicode/utf8.first", "unicode/utf8.acceptRanges", "internal/bytealg.MaxLen"], apart := false, laid := [("unicode/utf8.acceptRanges", laid_unicode_utf8_acceptRanges), ("unicode/utf8.first", laid_unicode_utf8_first)], narrowed := true }
def TableTablesUptoSaid : Prop := tableTablesUptoRow.holds Tryd.pinned (OpenSpec.upto tableTablesSpec)

/-- 'trivetlaw15.TableWays', WHERE WHAT IT READS IS OF BULK AT MOST 1048576: true; the input reads as it did. -/
def tableWaysUptoRow : OpenClaim := { program := "yteigbejidfkhpaadoor", sum := "1851306f0dd12c49cb3ebc6f1a55c2c97a674dc82fa580bef7961d31b15d24e7", func := "trivet/trivetlaw15.TableWays", spec := "tableWays", inPlace := ["internal/bytealg.IndexByteString", "internal/bytealg.IndexString", "math.Float64bits", "math.Float64frombits", "math.Float32bits", "math.Float32frombits", "internal/bytealg.abigen_runtime_cmpstring"], unfollowed := true, recurses := true, named := ["unicode/utf8.first", "unicode/utf8.acceptRanges", "internal/bytealg.MaxLen"], apart := false, laid := [("unicode/utf8.acceptRanges", laid_unicode_utf8_acceptRanges), ("unicode/utf8.first", laid_unicode_utf8_first)], narrowed := true }
def TableWaysUptoSaid : Prop := tableWaysUptoRow.holds Tryd.pinned (OpenSpec.upto tableWaysSpec)

/-- 'trivetlaw15.TableMethods', WHERE WHAT IT READS IS OF BULK AT MOST 1048576: true; the input reads as it did. -/
def tableMethodsUptoRow : OpenClaim := { program := "yteigbejidfkhpaadoor", sum := "1851306f0dd12c49cb3ebc6f1a55c2c97a674dc82fa580bef7961d31b15d24e7", func := "trivet/trivetlaw15.TableMethods", spec := "tableMethods", inPlace := ["internal/bytealg.IndexByteString", "internal/bytealg.IndexString", "math.Float64bits", "math.Float64frombits", "math.Float32bits", "math.Float32frombits", "internal/bytealg.abigen_runtime_cmpstring"], unfollowed := true, recurses := true, named := ["unicode/utf8.first", "unicode/utf8.acceptRanges", "internal/bytealg.MaxLen"], apart := false, laid := [("unicode/utf8.acceptRanges", laid_unicode_utf8_acceptRanges), ("unicode/utf8.first", laid_unicode_utf8_first)], narrowed := true }
def TableMethodsUptoSaid : Prop := tableMethodsUptoRow.holds Tryd.pinned (OpenSpec.upto tableMethodsSpec)

/-- 'trivetlaw15.TableKeeps', WHERE WHAT IT READS IS OF BULK AT MOST 1048576: true; the input reads as it did. -/
def tableKeepsUptoRow : OpenClaim := { program := "yteigbejidfkhpaadoor", sum := "1851306f0dd12c49cb3ebc6f1a55c2c97a674dc82fa580bef7961d31b15d24e7", func := "trivet/trivetlaw15.TableKeeps", spec := "tableKeeps", inPlace := ["internal/bytealg.IndexByteString", "internal/bytealg.IndexString", "math.Float64bits", "math.Float64frombits", "math.Float32bits", "math.Float32frombits", "internal/bytealg.abigen_runtime_cmpstring"], unfollowed := true, recurses := true, named := ["unicode/utf8.first", "unicode/utf8.acceptRanges", "internal/bytealg.MaxLen"], apart := false, laid := [("unicode/utf8.acceptRanges", laid_unicode_utf8_acceptRanges), ("unicode/utf8.first", laid_unicode_utf8_first)], narrowed := true }
def TableKeepsUptoSaid : Prop := tableKeepsUptoRow.holds Tryd.pinned (OpenSpec.upto tableKeepsSpec)

/-- 'trivetlaw15.TableBack', WHERE WHAT IT READS IS OF BULK AT MOST 1048576: true; the input reads as it did. -/
def tableBackUptoRow : OpenClaim := { program := "yteigbejidfkhpaadoor", sum := "1851306f0dd12c49cb3ebc6f1a55c2c97a674dc82fa580bef7961d31b15d24e7", func := "trivet/trivetlaw15.TableBack", spec := "tableBack", inPlace := ["internal/bytealg.IndexByteString", "internal/bytealg.IndexString", "math.Float64bits", "math.Float64frombits", "math.Float32bits", "math.Float32frombits", "internal/bytealg.abigen_runtime_cmpstring"], unfollowed := true, recurses := true, named := ["unicode/utf8.first", "unicode/utf8.acceptRanges", "internal/bytealg.MaxLen"], apart := false, laid := [("unicode/utf8.acceptRanges", laid_unicode_utf8_acceptRanges), ("unicode/utf8.first", laid_unicode_utf8_first)], narrowed := true }
def TableBackUptoSaid : Prop := tableBackUptoRow.holds Tryd.pinned (OpenSpec.upto tableBackSpec)

end Rows
end Go.Proofs.YteigbejidfkhpaaDoor
