/- slices.Clone at trivet/api.Prop. (Printed by gen/slk.py.) -/
import Derived.Test.YtelhpdnclmpgoaaDoorSka
namespace Go.Proofs.YtelhpdnclmpgoaaDoor
open Go Go.RowKit
open Go.ChangeShapes Go.WideShapes Go.Deep Go.Sort
set_option linter.unusedSimpArgs false
set_option linter.unusedVariables false

theorem infoP : (Tryd.prog.info? 85).map (fun i => (i.zero, i.size, i.bytes)) = some (some (.agg #[.string ByteArray.empty, .int .i64 0, .int .i64 0, .string ByteArray.empty, .float .f64 0]), 5, 56) := by kernel_rfl
theorem sizeP : (Tryd.prog.info? 85).map (·.size) = some 5 := by kernel_rfl

set_option maxRecDepth 100000 in
set_option maxHeartbeats 1000000 in
theorem cloneP_c {w : World} {v : Value} {n : Nat} {cs : List Value} (h : RC w v n 5 cs) (h1 : ∀ y ∈ cs, y.oneCell' = true) (hn : n * 56 ≤ 140737488355328) :
    Calls Tryd.prog 55 #[v] w fun e w' => ∃ v', e = .returned v' ∧ w'.ownsRow w.heap.size 85 5 v' n cs ∧ Below w.heap.size w w' := by
  obtain ⟨A, c, rfl, hnc, hc, hlen, hA, hcell⟩ := id h
  have q := fun (w : World) (a : Option Addr) (n c n' c' : Nat) => Lib.run_eql_slice_nil (P := Tryd.prog) w 26 _ a n c n' c' Tryd.underlying26
  have H := Lib.hid h
  have H1 := Lib.hid h1
  have HN := Lib.hid hn
  clear h hcell h1 hn
  rcases A with _ | ad
  · have hc0 := hA rfl
    have hn0 : n = 0 := by omega
    subst hn0
    have hcs : cs = [] := List.eq_nil_of_length_eq_zero (by omega)
    subst hcs
    clear hA hlen hc0
    go_enter Tryd.func55, Tryd.ntmps55
    go_wp2
    go_ret
    exact ⟨_, rfl, own_nil _ _ _ _, Below.refl _ _⟩
  · clear hA hlen
    go_enter Tryd.func55, Tryd.ntmps55
    go_wp2_with (at_builtin; refine app_own (w0 := w) w.heap.size 26 85 5 56 _ Tryd.underlying26 infoP rfl (by decide) rfl (.tmp 5) (.tmp 6) rfl _ _ 0 n [] cs rfl rfl (World.ownsRow_made w #[] 0 (Nat.le_refl _) (Nat.zero_le _) (by simp)) (rc_alloc H.out _) H1.out ((Below.refl _ _).alloc (Nat.le_refl _) _) (by have := HN.out; omega) (by have := HN.out; omega) (by simp) ?_; intro v1 w1 o1 b1 g1 _; simp only [Nat.zero_add, List.nil_append] at o1; have O1 := Lib.hid o1; clear o1 g1)
    go_ret
    exact ⟨v1, rfl, O1.out, b1⟩
end Go.Proofs.YtelhpdnclmpgoaaDoor
