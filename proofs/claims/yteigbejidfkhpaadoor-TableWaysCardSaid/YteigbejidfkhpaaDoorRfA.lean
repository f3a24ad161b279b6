/- Layer 15, the reference: numbers as bytes; a float of its bits. -/
import Derived.Test.YteigbejidfkhpaaDoorTbB
namespace Go.Proofs.YteigbejidfkhpaaDoor
open Go Go.RowKit
set_option linter.unusedSimpArgs false
set_option linter.unusedVariables false

set_option maxRecDepth 100000 in
set_option maxHeartbeats 1000000 in
theorem refBig_c {w : World} {base : Nat} {v : Value} {l : List UInt8} (h : OB w base v l) (hB : base ≤ w.heap.size) (hl : l.length ≤ 70368744177664) (n : Nat) (hn : n < 18446744073709551616) (k : Nat) (hk : k ≤ 8) :
    Calls Tryd.prog 20 #[v, .int .u64 n, .int .i64 k] w fun e w' => ∃ v', e = .returned v' ∧ OB w' base v' (l ++ beB n k) ∧ Below base w w' := by
  have H := Lib.hid h
  clear h
  go_enter Tryd.func20, Tryd.ntmps20
  go_wp2
  go_loopw [0, 7] (fun x i wr => ∃ (m r : Nat) (pre : List UInt8), m + r = k ∧ i = .int .i64 m ∧ Hid (pre ++ beB n r = beB n k) ∧ Hid (OB wr base x (l ++ pre)) ∧ Below base w wr) (fun _ i _ => k - (intOf i).toNat)
  case atStart => exact ⟨0, k, [], by omega, rfl, Lib.hid rfl, by simpa [Lib.hid] using H, Below.refl _ _⟩
  case round =>
    obtain ⟨m, r, pre, hr, rfl, HP, O2, b2⟩ := hrel
    cases r with
    | zero =>
      have hm : k ≤ m := by omega
      have hm2 : m ≤ k := by omega
      clear hr
      go_wp2
      go_ret
      have := HP.out
      simp only [beB, List.append_nil] at this
      exact ⟨_, rfl, by rw [← this]; exact O2.out, b2⟩
    | succ r =>
      have hm : m < k := by omega
      have hpl : pre.length ≤ 8 := by
        have := congrArg List.length HP.out
        rw [List.length_append, beB_len, beB_len] at this
        omega
      have hs1 : (k : Int) - 1 - (m : Int) = (r : Int) := by omega
      clear hr
      go_wp2_with (at_builtin; refine app_b (w0 := w) (base := base) (l := l ++ pre) (m := [dig n r]) rfl (.tmp 13) (.tmp 23) rfl rfl rfl (O2.out.alloc _) (rb_dig wr _ _ (dig_val n r)) (b2.alloc (by have := b2.size; omega) _) (by have := b2.size; simp; omega) (by simp; omega) ?_; intro v4 w4 o4 b4 _ _; have O4 := Lib.hid o4; clear o4)
      go_roundw
      case rel => exact ⟨m + 1, r, pre ++ [dig n r], by omega, by go_num, Lib.hid (by have := HP.out; simpa [beB] using this), Lib.hid (by have := O4.out; rwa [List.append_assoc] at this), b4⟩
      case measure => simp [intOf]; omega

theorem from_c {w : World} (n : Nat) : Calls Tryd.prog 19 #[.int .u64 n] w fun e w' => e = .returned (.float .f64 n) ∧ w = w' := by
  have q := from64_run
  go_enter Tryd.func19, Tryd.ntmps19
  go_wp2_with fail
  go_ret
  exact ⟨rfl, rfl⟩
end Go.Proofs.YteigbejidfkhpaaDoor
