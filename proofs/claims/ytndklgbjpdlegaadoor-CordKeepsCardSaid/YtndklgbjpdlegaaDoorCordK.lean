/- Layer 1: what the statements' 'wakes' looks at. -/
import Derived.Test.YtndklgbjpdlegaaDoorCordM
import Derived.Lib.SlBytesConst
namespace Go.Proofs.YtndklgbjpdlegaaDoor
open Go Go.RowKit
set_option linter.unusedSimpArgs false
set_option linter.unusedVariables false

theorem rb_lit {fr : Nat × Nat} (w : World) (l : List UInt8) (cs : List Value) (n : Nat) (hn : n = l.length) (hcs : cs = Lib.byteCells l) (hl : n ≤ 9223372036854775807) : RB (w.alloc (.cells cs.toArray 5 fr)) (.slice (some ⟨w.heap.size, 0, none⟩) n n) l := by
  subst hn hcs
  exact rc_new w 5 l.length 1 (Lib.byteCells l) (by simp [Lib.byteCells]) hl
theorem ri_lit (w : World) (l : List Int) (cs : List Value) (n : Nat) (hn : n = l.length) (hcs : cs = l.map (Value.int .i64)) (hl : n ≤ 9223372036854775807) : RI (w.alloc (.cells cs.toArray 3)) (.slice (some ⟨w.heap.size, 0, none⟩) n n) l := by
  subst hn hcs
  exact rc_new w 3 l.length 1 (l.map (Value.int .i64)) (by simp) hl
theorem rb_nil (w : World) : RB w (.slice none 0 0) [] := ob_rb (ob_nil w 0)

theorem k1 : rNum [48, 48, 55, 59] false = (0, [], true) := by decide +kernel
theorem k2 : ([] : List UInt8) ++ numsB [0, -12] = [48, 59, 45, 49, 50, 59] := by decide +kernel
theorem k3 : ([] : List UInt8) ++ strB [104, 105] = [50, 58, 104, 105, 44] := by decide +kernel

set_option maxRecDepth 100000 in
set_option maxHeartbeats 2000000 in
theorem wakes_c {w : World} (hG : G w) :
    Calls Tryd.prog 10 #[] w fun e w' => e = .returned (.bool true) ∧ Below w.heap.size w w' := by
  have HG := Lib.hid hG
  clear hG
  have kc := fun (w : World) (C : Array Value) (n c : Nat) => Lib.run_convert_bytes_const (P := Tryd.prog) w 22 5 C n c Tryd.underlying22 Tryd.underlying5
  go_enter Tryd.func10, Tryd.ntmps10
  go_wp2_with (first
    | (go_at_call 16; refine (rd_new (rb_lit w [48, 48, 55, 59] _ 4 rfl rfl (by omega)) (by simp)).mono ?_; rintro e w1 ⟨R, rfl, hR, hrd, b1⟩; have B1 := ((Below.refl _ w).alloc (Nat.le_refl _) _).trans (b1.mono (by simp)); have HRD := Lib.hid hrd; clear hrd)
    | (go_at_call 12; refine (cordNum_c ((HG.out.below HG.out.sz B1).below HG.out.sz ((Below.refl _ _).alloc (by have := B1.size; omega) _)) (rb_nil _) (ri_lit w1 [0, -12] _ 2 rfl rfl (by omega)) (by intro n hn; simp at hn; omega) (by simp)).mono ?_; rintro e w2 ⟨v2, rfl, o2, b2⟩; have B2 := (B1.alloc B1.size _).trans (b2.mono (by have := B1.size; simp; omega)); have hcv2 := rb_string (ob_rb o2); rw [k2] at hcv2; have HRD2 := Lib.hid (rd_keep HRD.out (((Below.refl _ _).alloc (Nat.le_refl _) _).trans (b2.mono (by simp)))); clear o2)
    | (go_at_call 13; refine (cordStr_c (HG.out.below HG.out.sz B2) (rb_nil _) ⟨#[104, 105]⟩ (by decide)).mono ?_; rintro e w3 ⟨v3, rfl, o3, b3⟩; have B3 := B2.trans (b3.mono B2.size); have hcv3 := rb_string (ob_rb o3); rw [show ([] : List UInt8) ++ strB (⟨#[104, 105]⟩ : ByteArray).data.toList = [50, 58, 104, 105, 44] from k3] at hcv3; have HRD3 := Lib.hid (rd_keep HRD2.out b3); clear o3)
    | (go_at_call 17; refine (rd_num (HG.out.below HG.out.sz B3) HRD3.out).mono ?_; rintro e w4 ⟨he, hrd4, hg4⟩; rw [k1] at he hrd4; subst he; have B4 := B3.grown hg4 B3.size (by intro k hk; injection hk with hk; have := hR; simp at this; omega); have HRD4 := Lib.hid hrd4; clear hrd4)
    | (go_at_call 20; refine (rd_bad HRD4.out).mono ?_; rintro e w5 ⟨rfl, rfl⟩))
  go_ret
  exact ⟨rfl, B4⟩
end Go.Proofs.YtndklgbjpdlegaaDoor
