/- Layer 15's statements: wakes. -/
import Derived.Test.YteigbejidfkhpaaDoorTbR
namespace Go.Proofs.YteigbejidfkhpaaDoor
open Go Go.RowKit
set_option linter.unusedSimpArgs false
set_option linter.unusedVariables false

def wkP : Prp := ⟨⟨#[97]⟩, 2, 1, ByteArray.empty, 0⟩
theorem wkP_v : validB [wkP] = true := by decide +kernel
theorem wkP_b : (⟨([] ++ beB (propsB [wkP]).length 4 ++ propsB [wkP]).toArray⟩ : ByteArray) = ⟨#[0, 0, 0, 4, 1, 97, 116, 1]⟩ := by decide +kernel
theorem wkM_b : Mth.bytes ⟨60, 80, [5, 0], [], []⟩ = some [0, 60, 0, 80, 0, 0, 0, 0, 0, 0, 0, 5, 0] := by decide +kernel
theorem rpr_one (w : World) (p : Prp) : RPr (w.alloc (.cells #[.string p.nm, .int .i64 p.k, .int .i64 p.n, .string p.t, .float .f64 p.r] 48)) (.slice (some ⟨w.heap.size, 0, none⟩) 1 1) [p] :=
  rc_new w 48 1 5 (Prp.cells p) rfl (by omega)
theorem ri_two (w : World) (a b : Int) : RI (w.alloc (.cells #[.int .i64 a, .int .i64 b] 3)) (.slice (some ⟨w.heap.size, 0, none⟩) 2 2) [a, b] :=
  rc_new w 3 2 1 [.int .i64 a, .int .i64 b] rfl (by omega)
theorem rs_nil (w : World) : RS w (.slice none 0 0) [] := own_rc (own_nil w 0 9 1)
theorem rpr_nil (w : World) : RPr w (.slice none 0 0) [] := own_rc (own_nil w 0 48 5)

set_option maxRecDepth 100000 in
set_option maxHeartbeats 2000000 in
theorem wakes_c {w : World} : Calls Tryd.prog 9 #[] w fun e w' => e = .returned (.bool true) ∧ Below w.heap.size w w' := by
  have bW := (Below.refl w.heap.size w).alloc (Nat.le_refl _) (.cells #[.string ⟨#[97]⟩, .int .i64 2, .int .i64 1, .string ByteArray.empty, .float .f64 0] 48)
  have HP := Lib.hid (rpr_one w wkP)
  go_enter Tryd.func9, Tryd.ntmps9
  go_wp2_with fail
  refine (put_c (base := 0) (ob_rb (ob_nil _ 0)) (by simp) HP.out (by decide) (by decide) wkP_v).mono ?_
  rintro e w1 ⟨v1, rfl, o1, b1⟩
  have O1 := Lib.hid o1
  have B1 := bW.trans (b1.mono bW.size)
  clear o1 b1
  go_wp2_with fail
  refine (tEncode_c 60 80 [5, 0] [] [] (ri_two w1 5 0) (rs_nil _) (rpr_nil _) (by simp) (by simp) (by simp) (by simp) (by simp)).mono ?_
  rw [wkM_b]
  rintro e w2 ⟨b2, v2, rfl, o2⟩
  have O2 := Lib.hid o2
  have b3 := ((Below.refl w1.heap.size w1).alloc (Nat.le_refl _) (.cells #[.int .i64 5, .int .i64 0] 3))
  have b4 := b3.trans (b2.mono b3.size)
  have hc1 := rb_string (rb_below (ob_rb O1.out) (b4.mono (by first | exact Nat.le_refl _ | omega)))
  have hc2 := rb_string (ob_rb O2.out)
  rw [wkP_b] at hc1
  have B4 := B1.trans (b4.mono B1.size)
  clear o2 b2 b3 b4 bW
  go_wp2_with fail
  go_ret
  exact ⟨rfl, B4⟩
end Go.Proofs.YteigbejidfkhpaaDoor
