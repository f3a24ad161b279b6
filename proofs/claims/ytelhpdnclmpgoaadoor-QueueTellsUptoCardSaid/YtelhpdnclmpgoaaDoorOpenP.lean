/- Properties that came in. -/
import Derived.Test.YtelhpdnclmpgoaaDoorOpen3
import Derived.Test.YtelhpdnclmpgoaaDoorTbC
namespace Go.Proofs.YtelhpdnclmpgoaaDoor
open Go Go.RowKit
open Go.ChangeShapes Go.WideShapes Go.Deep
set_option linter.unusedSimpArgs false
set_option linter.unusedVariables false

section
variable {H : Type} {enc : TypeId × Value → H} {W : World}
theorem opn_i64 {t : TypeId} (hu : Tryd.prog.underlying t = some (.int .i64)) (hc : Tryd.prog.cellsOf t = 1) : Opn enc Tryd.prog W t 1 (fun n : Int => [.int .i64 n]) (fun n => -9223372036854775808 ≤ n ∧ n ≤ 9223372036854775807) :=
  (opn_int hu hc).map id _ _ (fun _ => rfl) (fun _ => rfl) (fun x hx => wf_i64 hx)
/-- What a property that came in is good for. -/
def Prp.came (p : Prp) : Prop := p.nm.size ≤ 140737488351232 ∧ p.t.size ≤ 140737488351232 ∧ p.r < 18446744073709551616 ∧ (-9223372036854775808 ≤ p.n ∧ p.n ≤ 9223372036854775807) ∧ (-9223372036854775808 ≤ p.k ∧ p.k ≤ 9223372036854775807)
theorem opn_prop : Opn enc Tryd.prog W 85 5 Prp.cells Prp.came :=
  (opn_struct Tryd.underlying85 (by kernel_rfl) (opnF_cons (opn_string Tryd.underlying9 (by kernel_rfl)) rfl (opnF_cons
    (opn_struct Tryd.underlying83 (by kernel_rfl) (opnF_cons (opn_i64 Tryd.underlying3 (by kernel_rfl)) rfl (opnF_cons (opn_i64 Tryd.underlying3 (by kernel_rfl)) rfl (opnF_cons (opn_string Tryd.underlying9 (by kernel_rfl)) rfl (opnF_cons (opn_float Tryd.underlying81 (by kernel_rfl)) rfl (opnF_nil _)))))) rfl (opnF_nil _)))).map
    (fun x => ⟨x.1, x.2.1.1, x.2.1.2.1, x.2.1.2.2.1, x.2.1.2.2.2.1⟩) _ _ (fun _ => rfl) (fun _ => rfl) (fun x hx => ⟨hx.1, hx.2.1.2.2.1, hx.2.1.2.2.2.1, hx.2.1.2.1, hx.2.1.1⟩)

theorem flat_one {X : Type} (g : X → Value) (xs : List X) : xs.flatMap (fun x => [g x]) = xs.map g := by
  induction xs with
  | nil => rfl
  | cons a r ih => simp [List.flatMap_cons, ih]
set_option maxRecDepth 100000 in
theorem open_props {v : Value} {base : Nat} {d : DataW H} {p : List MemPlace} {ts : List TypeId} {ds : List (DataW H)} (hv : Value.okWide Tryd.prog W .any base 26 v) (h : DataW.Trod enc Tryd.prog W 0 (fun _ => true) true 26 v d p)
    (hsz : (DataW.weightsEach Tryd.prog ts ds).all (· ≤ reachBytes) = true) (j : Nat) (ht : ts[j]? = some 26) (hd : ds[j]? = some d) :
    ∃ ps : List Prp, RPr W v ps ∧ ∀ p ∈ ps, p.came := by
  obtain ⟨ps, r, g, _⟩ := open_sl (by omega) Tryd.underlying26 (by kernel_rfl) opn_prop hv h hsz j ht hd
  exact ⟨ps, r, g⟩
end
end Go.Proofs.YtelhpdnclmpgoaaDoor
