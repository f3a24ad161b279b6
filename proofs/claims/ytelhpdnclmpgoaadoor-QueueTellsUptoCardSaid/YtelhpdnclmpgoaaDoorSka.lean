/- Copies of elements of several cells; a row's block; plain facts on lists cut in three. -/
import Derived.Test.YtelhpdnclmpgoaaDoorTbH
import Derived.Laws.CopyRow
import Derived.Laws.CopyOwn
import Derived.Lib.AppendZerosOnto
import Derived.Lib.Overlaps
import Derived.Shelf.Spec.SlicesInsert
namespace Go.Proofs.YtelhpdnclmpgoaaDoor
open Go Go.RowKit
open Go.ChangeShapes Go.WideShapes Go.Deep Go.Sort
set_option linter.unusedSimpArgs false
set_option linter.unusedVariables false

/-- What an insertion leaves: a row cut at a, its first m, s put in. -/
def insRow {α : Type} (cur ys : List α) (a s m : Nat) : List α :=
  let c1 := cur.take (a + s) ++ (cur.take m).drop a ++ cur.drop (a + s + (m - a))
  c1.take a ++ ys ++ c1.drop (a + s)
theorem insRow_take {α : Type} (cur ys : List α) (a s m : Nat) (ha : a ≤ m) (hm : m + s ≤ cur.length) (hy : ys.length = s) : (insRow cur ys a s m).take (m + s) = (cur.take m).take a ++ ys ++ (cur.take m).drop a := by
  unfold insRow
  have e1 : (cur.take (a + s) ++ (cur.take m).drop a ++ cur.drop (a + s + (m - a))).take a = (cur.take m).take a := by
    rw [List.append_assoc, List.take_append_of_le_length (by rw [List.length_take]; omega), List.take_take, List.take_take]
    congr 1
    omega
  have e2 : (cur.take (a + s) ++ (cur.take m).drop a ++ cur.drop (a + s + (m - a))).drop (a + s) = (cur.take m).drop a ++ cur.drop (a + s + (m - a)) := by
    rw [List.append_assoc, List.drop_left' (by rw [List.length_take]; omega)]
  simp only [e1, e2]
  rw [← List.append_assoc]
  exact List.take_left' (by simp only [List.length_append, List.length_take, List.length_drop]; omega)
theorem insRow_len {α : Type} (cur ys : List α) (a s m : Nat) (ha : a ≤ m) (hm : m + s ≤ cur.length) (hy : ys.length = s) : (insRow cur ys a s m).length = cur.length := by
  unfold insRow
  simp only [List.length_append, List.length_take, List.length_drop]
  omega
/-- What an insertion into a new row leaves. -/
def insNew {α : Type} (r0 xs ys : List α) (a s m : Nat) : List α :=
  let r1 := r0.take a ++ ys ++ r0.drop (a + s)
  r1.take (a + s) ++ xs.drop a ++ r1.drop (a + s + (m - a))
theorem insNew_take {α : Type} (r0 xs ys : List α) (a s m : Nat) (ha : a ≤ m) (hx : xs.length = m) (hm : m + s ≤ r0.length) (hy : ys.length = s) (h0 : r0.take a = xs.take a) : (insNew r0 xs ys a s m).take (m + s) = xs.take a ++ ys ++ xs.drop a := by
  unfold insNew
  have e1 : (r0.take a ++ ys ++ r0.drop (a + s)).take (a + s) = xs.take a ++ ys := by
    rw [h0]
    exact List.take_left' (by simp only [List.length_append, List.length_take]; omega)
  simp only [e1]
  exact List.take_left' (by simp only [List.length_append, List.length_take, List.length_drop]; omega)
theorem insNew_len {α : Type} (r0 xs ys : List α) (a s m : Nat) (ha : a ≤ m) (hx : xs.length = m) (hm : m + s ≤ r0.length) (hy : ys.length = s) : (insNew r0 xs ys a s m).length = r0.length := by
  unfold insNew
  simp only [List.length_append, List.length_take, List.length_drop]
  omega

section
variable {P : Program}
/-- copy(dst, src) at elements of s cells. -/
theorem run_copy_rowK (w : World) (dT sT ty elem : TypeId) (s g o dLen dCap : Nat) (a : Addr) (sLen sCap : Nat) (cur : Array Value) (t : TypeId) (cs : List Value)
    (hu : P.underlying dT = some (.slice elem)) (hs : (P.info? elem).map (·.size) = some s)
    (hg : w.heap[g]? = some (.cells cur t (0, 0))) (hn : cs.length = s * Nat.min sLen dLen)
    (hsrc : ∀ j v, cs[j]? = some v → w.cell? (a.add j) = some v) (hfit : o + cs.length ≤ cur.size) (h1 : ∀ v ∈ cs, v.oneCell' = true) :
    (Builtin.copy_ #[dT, sT] ty #[.slice (some ⟨g, o, none⟩) dLen dCap, .slice (some a) sLen sCap]).run P w =
      .ok (goInt (Nat.min sLen dLen)) (w.setRow g (cur.toList.take o ++ cs ++ cur.toList.drop (o + cs.length)).toArray) := by
  have hl := run_loadCells_list (P := P) w a cs hsrc
  have hst := run_storeCells_at P g o t cs 0 cur w hg (by simpa using hfit) h1
  cases hq : P.info? elem with
  | none => simp [hq] at hs
  | some i =>
    have hi : i.size = s := by simpa [hq] using hs
    simp only [Builtin.copy_, run_underlying hu, Builtin.lenOf, Builtin.firstCells, sizeOf, typeInfo, hq, hi]
    simp [Builtin.copy_, run_underlying hu, Builtin.lenOf, Builtin.firstCells, sizeOf, typeInfo, hq, hi, Nat.mul_comm, ← hn, hl, hst]
end
end Go.Proofs.YtelhpdnclmpgoaaDoor
