/- A float of its bits; the order of texts. -/
import Derived.Test.YtelhpdnclmpgoaaDoorTbC
import Derived.Sort.Walk0
namespace Go.Proofs.YtelhpdnclmpgoaaDoor
open Go Go.Proofs Go.RowKit Go.Sort
set_option linter.unusedSimpArgs false
set_option linter.unusedVariables false

theorem from_c {w : World} (n : Nat) : Calls Tryd.prog 88 #[.int .u64 n] w fun e w' => e = .returned (.float .f64 n) ∧ w = w' := by
  have q := from64_run
  go_enter Tryd.func88, Tryd.ntmps88
  go_wp2_with fail
  go_ret
  exact ⟨rfl, rfl⟩
theorem less_iff (a b : ByteArray) : Go.Op.bytesLess a.toList b.toList = true ↔ a.data.toList < b.data.toList := by
  rw [bytesLess_eq, decide_eq_true_eq, ByteArray.toList_eq, ByteArray.toList_eq]
end Go.Proofs.YtelhpdnclmpgoaaDoor
