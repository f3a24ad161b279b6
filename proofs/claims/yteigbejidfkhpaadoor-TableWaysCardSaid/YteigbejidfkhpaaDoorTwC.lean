/- TableWays: the walk, at whatever came in. -/
import Derived.Test.YteigbejidfkhpaaDoorTwB
import Derived.Test.YteigbejidfkhpaaDoorOpen
namespace Go.Proofs.YteigbejidfkhpaaDoor
open Go Go.RowKit
open Go.ChangeShapes Go.WideShapes Go.Deep
set_option linter.unusedSimpArgs false
set_option linter.unusedVariables false

theorem tableWays_w {w : World} (n m : Int) (turned : Bool) (h0 : (Lit.int .i64 n).wf = true) (h1 : (Lit.int .u64 m).wf = true) :
    Calls Tryd.prog 5 #[.int .i64 n, .int .u64 m, .bool turned] w fun e w' => e = .returned (.bool true) ∧ Below w.heap.size w w' := by
  have hn := wf_i64 h0
  have hm : 0 ≤ m ∧ m < 18446744073709551616 := by
    have e1 : IntKind.u64.min = 0 := rfl
    have e2 : IntKind.u64.max = 18446744073709551615 := rfl
    simp [Lit.wf, e1, e2] at h1
    omega
  obtain ⟨b, rfl⟩ := Int.eq_ofNat_of_zero_le hm.1
  exact tableWays_c n hn.1 hn.2 b (by omega) turned
end Go.Proofs.YteigbejidfkhpaaDoor
