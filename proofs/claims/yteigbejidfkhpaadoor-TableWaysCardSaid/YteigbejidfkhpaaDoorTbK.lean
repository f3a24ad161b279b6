/- Layer 15: fits; table.Put of properties that cannot be. -/
import Derived.Test.YteigbejidfkhpaaDoorTbF
import Derived.Test.YteigbejidfkhpaaDoorTbJ
namespace Go.Proofs.YteigbejidfkhpaaDoor
open Go Go.RowKit
set_option linter.unusedSimpArgs false
set_option linter.unusedVariables false

/-- Can a number be written in so many bytes? -/
def fitsB (n : Int) (s : Nat) : Bool := decide (0 ≤ n) && (decide (s = 8) || decide (n < 2 ^ (8 * s)))
set_option maxRecDepth 100000 in
set_option maxHeartbeats 1000000 in
theorem fits_c {w : World} (n : Int) (s : Nat) (hs : s = 1 ∨ s = 2 ∨ s = 4 ∨ s = 8) : Calls Tryd.prog 30 #[.int .i64 n, .int .i64 s] w fun e w' => e = .returned (.bool (fitsB n s)) ∧ w = w' := by
  by_cases h0 : n < 0
  · have e : fitsB n s = false := by unfold fitsB; rw [decide_eq_false (by omega)]; rfl
    rw [e]
    clear e hs
    go_enter Tryd.func30, Tryd.ntmps30
    go_wp2_with fail
    go_ret
    exact ⟨rfl, rfl⟩
  · have h0' : 0 ≤ n := by omega
    have e : fitsB n s = (decide (s = 8) || decide (n < 2 ^ (8 * s))) := by unfold fitsB; rw [decide_eq_true h0']; rfl
    rw [e]
    clear e h0
    rcases hs with rfl | rfl | rfl | rfl
    · go_enter Tryd.func30, Tryd.ntmps30
      go_wp2_with fail
      go_ret
      exact ⟨by first | rfl | (simp; done), rfl⟩
    · go_enter Tryd.func30, Tryd.ntmps30
      go_wp2_with fail
      go_ret
      exact ⟨by first | rfl | (simp; done), rfl⟩
    · go_enter Tryd.func30, Tryd.ntmps30
      go_wp2_with fail
      go_ret
      exact ⟨by first | rfl | (simp; done), rfl⟩
    · go_enter Tryd.func30, Tryd.ntmps30
      go_wp2_with fail
      go_ret
      exact ⟨by first | rfl | (simp; done), rfl⟩

set_option maxRecDepth 100000 in
theorem putBad_c {w : World} {v vl : Value} {ps : List Prp} (hp : RPr w vl ps) (hsz : ∀ p ∈ ps, p.nm.size ≤ 140737488351232) (hv : validB ps = false) :
    Calls Tryd.prog 14 #[v, vl] w fun e w' => e = .returned (.tuple #[.slice none 0 0, .int .i64 36]) ∧ Below w.heap.size w w' := by
  have HV := Lib.hid (valid_c hp hsz)
  rw [hv] at HV
  clear hp hsz hv
  go_enter Tryd.func14, Tryd.ntmps14
  go_wp2_with fail
  refine (HV.out).mono ?_
  rintro e w1 ⟨rfl, b1⟩
  go_wp2_with fail
  go_ret2
  exact ⟨rfl, b1⟩
end Go.Proofs.YteigbejidfkhpaaDoor
