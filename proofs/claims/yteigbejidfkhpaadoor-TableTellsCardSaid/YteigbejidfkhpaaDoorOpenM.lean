/- Properties and methods that came in. -/
import Derived.Test.YteigbejidfkhpaaDoorOpen3
import Derived.Test.YteigbejidfkhpaaDoorTableTells
namespace Go.Proofs.YteigbejidfkhpaaDoor
open Go Go.RowKit
open Go.ChangeShapes Go.WideShapes Go.Deep
set_option linter.unusedSimpArgs false
set_option linter.unusedVariables false

section
variable {H : Type} {enc : TypeId × Value → H} {W : World}
theorem opn_i64 {t : TypeId} (hu : Tryd.prog.underlying t = some (.int .i64)) (hc : Tryd.prog.cellsOf t = 1) : Opn enc Tryd.prog W t 1 (fun n : Int => [.int .i64 n]) (fun n => -9223372036854775808 ≤ n ∧ n ≤ 9223372036854775807) :=
  (opn_int hu hc).map id _ _ (fun _ => rfl) (fun _ => rfl) (fun x hx => wf_i64 hx)
/-- What a property that came in is good for. -/
def Prp.came (p : Prp) : Prop := p.nm.size ≤ 140737488351232 ∧ p.t.size ≤ 140737488351232 ∧ p.r < 18446744073709551616 ∧ (-9223372036854775808 ≤ p.n ∧ p.n ≤ 9223372036854775807) ∧ (-9223372036854775808 ≤ p.k ∧ p.k ≤ 9223372036854775807)
theorem opn_prop : Opn enc Tryd.prog W 48 5 Prp.cells Prp.came :=
  (opn_struct Tryd.underlying48 (by kernel_rfl) (opnF_cons (opn_string Tryd.underlying9 (by kernel_rfl)) rfl (opnF_cons
    (opn_struct Tryd.underlying46 (by kernel_rfl) (opnF_cons (opn_i64 Tryd.underlying3 (by kernel_rfl)) rfl (opnF_cons (opn_i64 Tryd.underlying3 (by kernel_rfl)) rfl (opnF_cons (opn_string Tryd.underlying9 (by kernel_rfl)) rfl (opnF_cons (opn_float Tryd.underlying41 (by kernel_rfl)) rfl (opnF_nil _)))))) rfl (opnF_nil _)))).map
    (fun x => ⟨x.1, x.2.1.1, x.2.1.2.1, x.2.1.2.2.1, x.2.1.2.2.2.1⟩) _ _ (fun _ => rfl) (fun _ => rfl) (fun x hx => ⟨hx.1, hx.2.1.2.2.1, hx.2.1.2.2.2.1, hx.2.1.2.1, hx.2.1.1⟩)

def mthCells (x : Int × Int × Value × Value × Value × Unit) : List Value := [.int .i64 x.1, .int .i64 x.2.1, x.2.2.1, x.2.2.2.1, x.2.2.2.2.1]
theorem flat_one {X : Type} (g : X → Value) (xs : List X) : xs.flatMap (fun x => [g x]) = xs.map g := by
  induction xs with
  | nil => rfl
  | cons a r ih => simp [List.flatMap_cons, ih]
set_option maxRecDepth 100000 in
theorem open_meth {v : Value} {base : Nat} {d : DataW H} {p : List MemPlace} {ts : List TypeId} {ds : List (DataW H)} (hv : Value.okWide Tryd.prog W .any base 26 v) (h : DataW.Trod enc Tryd.prog W 0 (fun _ => true) true 26 v d p)
    (hsz : (DataW.weightsEach Tryd.prog ts ds).all (· ≤ reachBytes) = true) (j : Nat) (ht : ts[j]? = some 26) (hd : ds[j]? = some d) :
    ∃ (m : Mth) (vn vt vp : Value), v = .agg #[.int .i64 m.c, .int .i64 m.i, vn, vt, vp] ∧ MthIn W m vn vt vp := by
  have hO : Opn enc Tryd.prog W 26 5 _ _ := opn_struct Tryd.underlying26 (by kernel_rfl) (opnF_cons (opn_i64 Tryd.underlying3 (by kernel_rfl)) rfl (opnF_cons (opn_i64 Tryd.underlying3 (by kernel_rfl)) rfl
    (opnF_cons (opn_slice (by omega) Tryd.underlying22 (by kernel_rfl) (opn_i64 Tryd.underlying3 (by kernel_rfl))) rfl
    (opnF_cons (opn_slice (by omega) Tryd.underlying23 (by kernel_rfl) (opn_string Tryd.underlying9 (by kernel_rfl))) rfl
    (opnF_cons (opn_slice (by omega) Tryd.underlying24 (by kernel_rfl) opn_prop) rfl (opnF_nil _))))))
  obtain ⟨x, rfl, g1, g2, ⟨ns, r3, g3, l3⟩, ⟨tx, r4, g4, l4⟩, ⟨ps, r5, g5, l5⟩, _⟩ := open_agg hO Tryd.underlying26 hv h hsz j ht hd
  obtain ⟨c, i, vn, vt, vp, u⟩ := x
  dsimp only at r3 r4 r5
  rw [flat_one] at r3 r4
  have b3 : Tryd.prog.bytesOf 3 = 8 := by kernel_rfl
  have b4 : Tryd.prog.bytesOf 9 = 16 := by kernel_rfl
  rw [b3] at l3
  rw [b4] at l4
  exact ⟨⟨c, i, ns, tx, ps⟩, vn, vt, vp, rfl, r3, r4, r5, ⟨fun n hn => (g3 n hn).2, fun p hp => ⟨(g5 p hp).2.2.1, (g5 p hp).2.2.2.1⟩⟩, by show ns.length ≤ _; omega, by show tx.length ≤ _; omega, g4, fun p hp => ⟨(g5 p hp).1, (g5 p hp).2.1⟩⟩
end
end Go.Proofs.YteigbejidfkhpaaDoor
