/- Layer 18: Next: its deferred catch. -/
import Derived.Test.YtfpdmgmolhddnaaDoorSfK
import Derived.Defers
import Derived.Recover
namespace Go.Proofs.YtfpdmgmolhddnaaDoor
open Go Go.RowKit
open Go.ChangeShapes Go.WideShapes Go.Deep
set_option linter.unusedSimpArgs false
set_option linter.unusedVariables false

set_option maxRecDepth 100000 in
theorem ncatch_idle (p q u : Addr) (w : World) :
    CallsD Tryd.prog 10 #[.pointer (some p), .pointer (some q), .pointer (some u)] .returning w fun e u' w' => e = .returned (.tuple #[]) ∧ u' = .returning ∧ w' = w := by
  refine callsD_of_wpS Tryd.func10 rfl fun c₀ cs hu => ?_
  apply wpS_seq
  apply wpS_region
  simp [wpOpsS, go_sem, recoverD, hu, Tryd.ntmps10, Exit.thenS]
  refine wpS_of_wp ?_
  go_wp2
  cases c₀
  simp_all [bodyPostS, results, Tryd.results10]
/-- What the catch leaves. -/
def caught (w : World) (g : Nat) : World :=
  ((((((w.alloc (.cells #[] 38)).setCell ⟨g, 0, none⟩ (.string ⟨#[]⟩)).setCell ⟨g, 1, none⟩ (.slice none 0 0)).setCell ⟨g, 2, none⟩ (.string ⟨#[]⟩)).setCell ⟨g + 1, 0, none⟩ (.int .i64 0)).setCell ⟨g + 2, 0, none⟩ (.int .i64 40))
set_option maxRecDepth 100000 in
theorem ncatch_stop (g : Nat) (older : List PanicEntry) (w : World) {c0 c1 c2 d e0 : Value} (h0 : w.heap[g]? = some (.cells #[c0, c1, c2] 25 (0, 0))) (h1 : w.heap[g + 1]? = some (.cells #[d] 3 (0, 0))) (h2 : w.heap[g + 2]? = some (.cells #[e0] 26 (0, 0))) :
    CallsD Tryd.prog 10 #[.pointer (some ⟨g, 0, none⟩), .pointer (some ⟨g + 1, 0, none⟩), .pointer (some ⟨g + 2, 0, none⟩)] (.panicking ({ v := .iface 38 (.agg #[]), recovered := false } :: older)) w fun e u' w' =>
      e = .returned (.tuple #[]) ∧ u' = .panicking ({ v := .iface 38 (.agg #[]), recovered := true } :: older) ∧ w' = caught w g := by
  refine callsD_of_wpS Tryd.func10 rfl fun c₀ cs hu => ?_
  apply wpS_seq
  apply wpS_region
  simp [wpOpsS, go_sem, recoverD, hu, Tryd.ntmps10, Exit.thenS]
  refine wpS_of_wp ?_
  have hta : ∀ w : World, (Instr.typeAssert (.iface 38 (.agg #[])) 20 38 true).run Tryd.prog w = .ok (.tuple #[.agg #[], .bool true]) w := fun w => by kernel_rfl
  have a0 : (w.alloc (.cells #[] 38)).heap[g]? = _ := (((Below.refl w.heap.size w).alloc (Nat.le_refl _) _).block _ (Array.getElem?_eq_some_iff.1 h0).1).trans h0
  have a1 : (w.alloc (.cells #[] 38)).heap[g + 1]? = _ := (((Below.refl w.heap.size w).alloc (Nat.le_refl _) _).block _ (Array.getElem?_eq_some_iff.1 h1).1).trans h1
  have a2 : (w.alloc (.cells #[] 38)).heap[g + 2]? = _ := (((Below.refl w.heap.size w).alloc (Nat.le_refl _) _).block _ (Array.getElem?_eq_some_iff.1 h2).1).trans h2
  obtain ⟨X, hX⟩ : ∃ X, X = w.alloc (.cells #[] 38) := ⟨_, rfl⟩
  have x0 := cell3 a0 0
  have x1 := cell3 a0 1
  have x2 := cell3 a0 2
  have x3 := cell3 a1 0
  have x4 := cell3 a2 0
  have f0 : ∀ j, (w.alloc (.cells #[] 38)).frozen? ⟨g, j, none⟩ = false := fun j => frozen_of_row _ _ j _ _ a0
  have f1 : ∀ j, (w.alloc (.cells #[] 38)).frozen? ⟨g + 1, j, none⟩ = false := fun j => frozen_of_row _ _ j _ _ a1
  have f2 : ∀ j, (w.alloc (.cells #[] 38)).frozen? ⟨g + 2, j, none⟩ = false := fun j => frozen_of_row _ _ j _ _ a2
  have n1 : ¬ g = g + 1 := by omega
  have n2 : ¬ g = g + 2 := by omega
  have n3 : ¬ g + 1 = g := by omega
  have n4 : ¬ g + 2 = g := by omega
  have n5 : ¬ g + 1 = g + 2 := by omega
  have n6 : ¬ g + 2 = g + 1 := by omega
  clear a0 a1 a2 h0 h1 h2 hX X
  go_wp2
  simp_all [bodyPostS, results, Tryd.results10, caught]
end Go.Proofs.YtfpdmgmolhddnaaDoor
