/- Layer 10: whether a queue can be. (Printed by gen/qdd.py.) -/
import Derived.Test.YtelhpdnclmpgoaaDoorQdC
import Derived.Maps.Own
import Derived.Maps.OwnOps
import Derived.Maps.Views
namespace Go.Proofs.YtelhpdnclmpgoaaDoor
open Go Go.RowKit Go.Sort
open Go.ChangeShapes Go.WideShapes Go.Deep
set_option linter.unusedSimpArgs false
set_option linter.unusedVariables false

/-- The numbers that wait rise, none is beyond the queue's. -/
def goodI (sq : Int) : Int → List Itm → Bool
  | _, [] => true
  | l, x :: r => decide (l < x.seq) && decide (x.seq ≤ sq) && x.m.good && goodI sq x.seq r
/-- The tags rise; a number that was seen doesn't come again. -/
def goodH (sq tg : Int) : Int → List Int → List Hld → Bool
  | _, _, [] => true
  | l, s, h :: r => decide (l < h.tag) && decide (h.tag ≤ tg) && decide (0 ≤ h.conn) && decide (h.conn < 8) && decide (0 ≤ h.sub) && decide (h.sub ≤ 1099511627776) && decide (1 ≤ h.it.seq) && decide (h.it.seq ≤ sq) && h.it.m.good && !(s.contains h.it.seq) && goodH sq tg h.tag (s ++ [h.it.seq]) r
def headQ (q : Que) : Bool := nameB q.name && decide (1 ≤ q.depth) && decide (q.depth ≤ 64) && decide (0 ≤ q.seq) && decide (q.seq ≤ 1099511627776) && decide (0 ≤ q.tag) && decide (q.tag ≤ 1099511627776) && decide ((q.items.length : Int) + q.held.length ≤ q.depth)
def goodQ (q : Que) : Bool := headQ q && (goodI q.seq 0 q.items && goodH q.seq q.tag 0 (q.items.map Itm.seq) q.held)

theorem i64_wf (x : Int) (hx : -9223372036854775808 ≤ x ∧ x ≤ 9223372036854775807) : (Lit.int .i64 x).wf = true := by
  have e1 : IntKind.i64.min = -9223372036854775808 := rfl
  have e2 : IntKind.i64.max = 9223372036854775807 := rfl
  simp [Lit.wf, e1, e2]
  omega
theorem round_lessL {n k : Nat} (h : k < n) : n - (intOf (.int .i64 ((k : Int) + 1))).toNat < n - (intOf (.int .i64 (k : Int))).toNat := by
  show n - ((k : Int) + 1).toNat < n - (k : Int).toNat
  rw [show ((k : Int) + 1).toNat = k + 1 by omega, Int.toNat_natCast]
  omega
/-- How often a number was seen. -/
def seenN (l : List Int) (x : Int) : Int := if l.contains x = true then 1 else 0
theorem seenN0 {l : List Int} {x : Int} (h : l.contains x = false) : seenN l x = 0 := by unfold seenN; rw [h]; rfl
theorem seenN1 {l : List Int} {x : Int} (h : l.contains x = true) : seenN l x = 1 := by unfold seenN; rw [h]; rfl
/-- The map of the numbers seen. -/
structure Seen (w : World) (B n : Nat) (l : List Int) : Prop where
  ex : ∃ D : DataW Unit, w.ownsMap Tryd.prog 3 (plainElem Tryd.prog 3) B n D ∧ Maps.IsMap D ∧ ∀ x : Int, D.atKey (.int .i64 x) (.lit (.int .i64 0)) = .lit (.int .i64 (seenN l x))
theorem lawI : Maps.Keyed Tryd.prog 3 := Maps.int_keyed Tryd.underlying3
theorem zeroI (w : World) : (zeroValue 3).run Tryd.prog w = .ok (.int .i64 0) w := by kernel_rfl
theorem seen_new (w : World) : Seen (w.alloc (.map #[] 0)) w.heap.size 0 [] :=
  ⟨.map [], World.ownsMap_made _ _ _ _, Maps.isMap_empty, fun x => rfl⟩
theorem Seen.below {w w1 : World} {B n : Nat} {l : List Int} (h : Seen w B n l) {C : Nat} (b : Below C w w1) (hC : B < C) : Seen w1 B n l := by
  obtain ⟨D, ⟨es, clock, hb, F, hs, hD⟩, h2⟩ := h
  exact ⟨D, ⟨es, clock, (b.block B hC).trans hb, F, hs, hD⟩, h2⟩
set_option maxRecDepth 100000 in
theorem Seen.lookup {w : World} {B n : Nat} {l : List Int} (h : Seen w B n l) (x : Int) (hx : -9223372036854775808 ≤ x ∧ x ≤ 9223372036854775807) (hc : l.contains x = false) :
    (Instr.lookup 65 (.map (some B)) (.int .i64 x) false).run Tryd.prog w = .ok (.int .i64 0) w := by
  obtain ⟨D, h1, h2, h3⟩ := h
  obtain ⟨c, hrun, hat, -⟩ := h1.lookup_int (t := 65) lawI Tryd.underlying65 Tryd.underlying3 (zeroI w) (Maps.keyOf_int_mk Tryd.underlying3 (i64_wf x hx) : keyOf Tryd.prog 3 (.int .i64 x) = some (.int .i64 x))
  have e : c = seenN l x := by
    have hh := (h3 x).symm.trans hat
    injection hh with hh
    injection hh with _ hh
    exact hh.symm
  rw [hrun, e, seenN0 hc]
set_option maxRecDepth 100000 in
theorem Seen.lookup1 {w : World} {B n : Nat} {l : List Int} (h : Seen w B n l) (x : Int) (hx : -9223372036854775808 ≤ x ∧ x ≤ 9223372036854775807) (hc : l.contains x = true) :
    (Instr.lookup 65 (.map (some B)) (.int .i64 x) false).run Tryd.prog w = .ok (.int .i64 1) w := by
  obtain ⟨D, h1, h2, h3⟩ := h
  obtain ⟨c, hrun, hat, -⟩ := h1.lookup_int (t := 65) lawI Tryd.underlying65 Tryd.underlying3 (zeroI w) (Maps.keyOf_int_mk Tryd.underlying3 (i64_wf x hx) : keyOf Tryd.prog 3 (.int .i64 x) = some (.int .i64 x))
  have e : c = seenN l x := by
    have hh := (h3 x).symm.trans hat
    injection hh with hh
    injection hh with _ hh
    exact hh.symm
  rw [hrun, e, seenN1 hc]
theorem Seen.update {w : World} {B n : Nat} {l : List Int} (h : Seen w B n l) (hn : n < 9223372036854775807) (x : Int) (hx : -9223372036854775808 ≤ x ∧ x ≤ 9223372036854775807) :
    ∃ w', (Instr.mapUpdate 65 (.map (some B)) (.int .i64 x) (.int .i64 1)).run Tryd.prog w = .ok () w' ∧ Seen w' B (n + 1) (l ++ [x]) ∧ w.grownBy w' (some B) := by
  obtain ⟨D, h1, h2, h3⟩ := h
  obtain ⟨w', hrun, hown, hg⟩ := h1.update (t := 65) lawI Tryd.underlying65 (by simpa [maxLen] using hn) (Maps.keyOf_int_mk Tryd.underlying3 (i64_wf x hx) : keyOf Tryd.prog 3 (.int .i64 x) = some (.int .i64 x)) (plainElem_int Tryd.underlying3 (i64_wf 1 (by omega)))
  refine ⟨w', hrun, ⟨_, hown, h2.put _ _, fun y => ?_⟩, hg⟩
  by_cases hy : y = x
  · subst hy
    rw [Maps.atKey_put_same h2 (by simp [WideAt.IsKeyLit])]
    rw [seenN1 (by simp)]
  · rw [Maps.atKey_put_other (fun e => hy (by injection e)), h3 y]
    have e : seenN (l ++ [x]) y = seenN l y := by
      unfold seenN
      rw [List.contains_append]
      simp [hy]
    rw [e]

end Go.Proofs.YtelhpdnclmpgoaaDoor
