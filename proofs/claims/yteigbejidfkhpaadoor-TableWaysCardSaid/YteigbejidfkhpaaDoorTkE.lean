/- Layer 15: a reading that gives up: guard. -/
import Derived.Test.YteigbejidfkhpaaDoorTkD
import Derived.Defers
import Derived.Recover
namespace Go.Proofs.YteigbejidfkhpaaDoor
open Go Go.RowKit
set_option linter.unusedSimpArgs false
set_option linter.unusedVariables false

set_option maxRecDepth 100000 in
theorem catch_idle (p : Addr) (w : World) :
    CallsD Tryd.prog 59 #[.pointer (some p)] .returning w fun e u' w' => e = .returned (.tuple #[]) ∧ u' = .returning ∧ w' = w := by
  refine callsD_of_wpS Tryd.func59 rfl fun c₀ cs hu => ?_
  apply wpS_seq
  apply wpS_region
  simp [wpOpsS, go_sem, recoverD, hu, Tryd.ntmps59, Exit.thenS]
  refine wpS_of_wp ?_
  go_wp2
  cases c₀
  simp_all [bodyPostS, results, Tryd.results59]
set_option maxRecDepth 100000 in
theorem catch_stop (p : Addr) (b : Bool) (older : List PanicEntry) (w : World) (hc : w.cell? p = some (.bool b)) (hz : w.frozen? p = false) :
    CallsD Tryd.prog 59 #[.pointer (some p)] (.panicking ({ v := .iface 87 (.agg #[]), recovered := false } :: older)) w fun e u' w' =>
      e = .returned (.tuple #[]) ∧ u' = .panicking ({ v := .iface 87 (.agg #[]), recovered := true } :: older) ∧ w' = (w.alloc (.cells #[] 87)).setCell p (.bool false) := by
  refine callsD_of_wpS Tryd.func59 rfl fun c₀ cs hu => ?_
  apply wpS_seq
  apply wpS_region
  simp [wpOpsS, go_sem, recoverD, hu, Tryd.ntmps59, Exit.thenS]
  refine wpS_of_wp ?_
  have hta : ∀ w : World, (Instr.typeAssert (.iface 87 (.agg #[])) 20 87 true).run Tryd.prog w = .ok (.tuple #[.agg #[], .bool true]) w := fun w => by kernel_rfl
  have hlt := World.block_lt_of_cell? w _ hc
  have hc' : (w.alloc (.cells #[] 87)).cell? p = some (.bool b) := ((below_al1 w _).cell hlt).trans hc
  have hz' : (w.alloc (.cells #[] 87)).frozen? p = false := ((below_al1 w _).frozen hlt).trans hz
  go_wp2
  simp_all [bodyPostS, results, Tryd.results59]

set_option maxRecDepth 100000 in
theorem guard_yes {c : FuncId} {cap : Array Value} {w : World} {R : World → Prop} (hen : ∀ args w, (callFunc c args).run Tryd.prog w = .ok (.enter c args) w)
    (h : Calls Tryd.prog c cap (w.alloc (.cells #[.bool false] 4)) fun e w' => e = .returned (.tuple #[]) ∧ R w' ∧ w'.cell? ⟨w.heap.size, 0, none⟩ = some (.bool false) ∧ w'.frozen? ⟨w.heap.size, 0, none⟩ = false) :
    Calls Tryd.prog 36 #[.func (.func c) #[] cap] w fun e w' => e = .returned (.bool true) ∧ ∃ w1, R w1 ∧ w' = w1.setCell ⟨w.heap.size, 0, none⟩ (.bool true) := by
  have hmf : ∀ (fn : Fn) (first cap : Array Value) (w : World), (Instr.makeFunc fn first cap).run Tryd.prog w = .ok (.func fn first cap) w := fun _ _ _ _ => rfl
  have H := Lib.hid h
  clear h
  go_enter_defers Tryd.func36, Tryd.ntmps36
  go_wp2
  refine (H.out).mono ?_
  rintro e w1 ⟨rfl, hR, hc, hf⟩
  have HR := Lib.hid hR
  clear hR
  go_wp2
  refine leaves_cons (f := 59) (args := #[.pointer (some ⟨w.heap.size, 0, none⟩)]) (by simp) (by simp [go_sem]) ?_
  refine (catch_idle ⟨w.heap.size, 0, none⟩ _).mono ?_
  rintro e u' w'' ⟨rfl, rfl, rfl⟩
  have hc2 : (w1.setCell ⟨w.heap.size, 0, none⟩ (.bool true)).cell? ⟨w.heap.size, 0, none⟩ = some (.bool true) := World.cell?_setCell_same' _ _ _ (by rw [hc]; rfl)
  simp [Leaves, settle, results, Tryd.results36, go_sem, hc2]
  exact ⟨w1, HR.out, rfl⟩
set_option maxRecDepth 100000 in
theorem guard_no {c : FuncId} {cap : Array Value} {w : World} {R : World → Prop} (hen : ∀ args w, (callFunc c args).run Tryd.prog w = .ok (.enter c args) w)
    (h : Calls Tryd.prog c cap (w.alloc (.cells #[.bool false] 4)) fun e w' => e = StopE ∧ R w' ∧ w'.cell? ⟨w.heap.size, 0, none⟩ = some (.bool false) ∧ w'.frozen? ⟨w.heap.size, 0, none⟩ = false) :
    Calls Tryd.prog 36 #[.func (.func c) #[] cap] w fun e w' => e = .returned (.bool false) ∧ ∃ w1, R w1 ∧ w' = (w1.alloc (.cells #[] 87)).setCell ⟨w.heap.size, 0, none⟩ (.bool false) := by
  have hmf : ∀ (fn : Fn) (first cap : Array Value) (w : World), (Instr.makeFunc fn first cap).run Tryd.prog w = .ok (.func fn first cap) w := fun _ _ _ _ => rfl
  have H := Lib.hid h
  clear h
  go_enter_defers Tryd.func36, Tryd.ntmps36
  go_wp2
  refine (H.out).mono ?_
  rintro e w1 ⟨rfl, hR, hc, hf⟩
  have HR := Lib.hid hR
  clear hR
  go_wp2
  refine leaves_cons (f := 59) (args := #[.pointer (some ⟨w.heap.size, 0, none⟩)]) (by simp) (by simp [go_sem]) ?_
  refine (catch_stop ⟨w.heap.size, 0, none⟩ false [] _ hc hf).mono ?_
  rintro e u' w'' ⟨rfl, rfl, rfl⟩
  have hlt := World.block_lt_of_cell? w1 _ hc
  have hc2 : ((w1.alloc (.cells #[] 87)).setCell ⟨w.heap.size, 0, none⟩ (.bool false)).cell? ⟨w.heap.size, 0, none⟩ = some (.bool false) := World.cell?_setCell_same' _ _ _ (by rw [((below_al1 w1 _).cell hlt).trans hc]; rfl)
  simp [Leaves, settle, results, Tryd.results36, go_sem, hc2]
  exact ⟨w1, HR.out, rfl⟩
end Go.Proofs.YteigbejidfkhpaaDoor
