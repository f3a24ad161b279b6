/- A value that came in. -/
import Derived.Test.YtcehkaombanhaaaGreatDoorOpenP
import Derived.Test.YtcehkaombanhaaaGreatDoorPaP
namespace Go.Proofs.YtcehkaombanhaaaGreatDoor
open Go Go.RowKit
open Go.ChangeShapes Go.WideShapes Go.Deep
set_option linter.unusedSimpArgs false
set_option linter.unusedVariables false

section
variable {H : Type} {enc : TypeId × Value → H} {W : World}
set_option maxRecDepth 100000 in
theorem open_val {v : Value} {base : Nat} {d : DataW H} {p : List MemPlace} {ts : List TypeId} {ds : List (DataW H)} (hv : Value.okWide Tryz.prog W .any base 24 v) (h : DataW.Trod enc Tryz.prog W 0 (fun _ => true) true 24 v d p)
    (hsz : (DataW.weightsEach Tryz.prog ts ds).all (· ≤ reachBytes) = true) (j : Nat) (ht : ts[j]? = some 24) (hd : ds[j]? = some d) :
    ∃ a : Val, v = a.v ∧ a.r < 18446744073709551616 ∧ a.t.size ≤ 140737488351232 ∧ (-9223372036854775808 ≤ a.n ∧ a.n ≤ 9223372036854775807) ∧ (-9223372036854775808 ≤ a.k ∧ a.k ≤ 9223372036854775807) := by
  have hO : Opn enc Tryz.prog W 24 4 _ _ := opn_struct Tryz.underlying24 (by kernel_rfl) (opnF_cons (opn_i64 Tryz.underlying3 (by kernel_rfl)) rfl (opnF_cons (opn_i64 Tryz.underlying3 (by kernel_rfl)) rfl (opnF_cons (opn_string Tryz.underlying9 (by kernel_rfl)) rfl (opnF_cons (opn_float Tryz.underlying22 (by kernel_rfl)) rfl (opnF_nil _)))))
  obtain ⟨x, rfl, g1, g2, g3, g4, _⟩ := open_agg hO Tryz.underlying24 hv h hsz j ht hd
  obtain ⟨k, n, t, r, u⟩ := x
  exact ⟨⟨k, n, t, r⟩, rfl, g4, g3, g2, g1⟩
set_option maxRecDepth 100000 in
theorem open_prop1 {v : Value} {base : Nat} {d : DataW H} {p : List MemPlace} {ts : List TypeId} {ds : List (DataW H)} (hv : Value.okWide Tryz.prog W .any base 32 v) (h : DataW.Trod enc Tryz.prog W 0 (fun _ => true) true 32 v d p)
    (hsz : (DataW.weightsEach Tryz.prog ts ds).all (· ≤ reachBytes) = true) (j : Nat) (ht : ts[j]? = some 32) (hd : ds[j]? = some d) :
    ∃ a : Prp, v = .agg #[.string a.nm, .int .i64 a.k, .int .i64 a.n, .string a.t, .float .f64 a.r] ∧ a.came := by
  obtain ⟨x, rfl, hx⟩ := open_agg opn_prop Tryz.underlying32 hv h hsz j ht hd
  exact ⟨x, rfl, hx⟩
end
end Go.Proofs.YtcehkaombanhaaaGreatDoor
