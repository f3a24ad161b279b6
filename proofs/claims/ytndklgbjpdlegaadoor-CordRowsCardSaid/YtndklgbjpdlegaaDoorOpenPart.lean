/- Parts of trivetlaw01: a number or a text. -/
import Derived.Test.YtndklgbjpdlegaaDoorOpen2
namespace Go.Proofs.YtndklgbjpdlegaaDoor
open Go Go.RowKit
open Go.ChangeShapes Go.WideShapes Go.Deep
set_option linter.unusedSimpArgs false
set_option linter.unusedVariables false

structure Prt where
  text : Bool
  n : Int
  s : ByteArray
def Prt.cells (p : Prt) : List Value := [.bool p.text, .int .i64 p.n, .string p.s]
def Prt.good (p : Prt) : Prop := -9223372036854775808 ≤ p.n ∧ p.n ≤ 9223372036854775807
def RP (w : World) (v : Value) (ps : List Prt) : Prop := RC w v ps.length 3 (ps.flatMap Prt.cells)

section
variable {H : Type} {enc : TypeId × Value → H} {W : World} {base : Nat} {v : Value} {d : DataW H} {ps : List MemPlace} {ts : List TypeId} {ds : List (DataW H)}
theorem open_parts (hv : Value.okWide Tryd.prog W .any base 29 v) (h : DataW.Trod enc Tryd.prog W 0 (fun _ => true) true 29 v d ps)
    (hsz : (DataW.weightsEach Tryd.prog ts ds).all (· ≤ reachBytes) = true) (j : Nat) (ht : ts[j]? = some 29) (hd : ds[j]? = some d) :
    ∃ xs : List Prt, RP W v xs ∧ (∀ x ∈ xs, x.good) ∧ xs.length ≤ 140737488351232 := by
  have hu : Tryd.prog.underlying 29 = some (.slice 33) := Tryd.underlying29
  obtain ⟨xs, h1, h2, h3⟩ := open_row Prt.cells Prt.good 3 (by omega) (fun _ => rfl) hu (by kernel_rfl) (fun n cs y hy hl => by
    obtain ⟨y0, y1, y2, n', _, _, e0, e1, e2⟩ := trod_struct3 Tryd.underlying33 hy
    match cs, hl with
    | [c0, c1, c2], _ =>
      have k0 : Tryd.prog.cellsOf 4 = 1 := by kernel_rfl
      have k1 : Tryd.prog.cellsOf 3 = 1 := by kernel_rfl
      have k2 : Tryd.prog.cellsOf 9 = 1 := by kernel_rfl
      simp only [k0, k1, k2, List.drop_zero, List.drop_succ_cons, List.take_succ_cons, List.take_zero] at e0 e1 e2
      obtain ⟨b, f0, _⟩ := DataW.trod_bool Tryd.underlying4 e0
      obtain ⟨z, f1, _, hz⟩ := DataW.trod_int Tryd.underlying3 e1
      obtain ⟨s, f2, _⟩ := DataW.trod_string Tryd.underlying9 e2
      cases f0; cases f1; cases f2
      exact ⟨⟨b, z, s⟩, rfl, wf_i64 hz⟩) hv h hsz j ht hd
  have hb : Tryd.prog.bytesOf 33 = 32 := by kernel_rfl
  rw [hb] at h3
  exact ⟨xs, h1, h2, by omega⟩
end
end Go.Proofs.YtndklgbjpdlegaaDoor
