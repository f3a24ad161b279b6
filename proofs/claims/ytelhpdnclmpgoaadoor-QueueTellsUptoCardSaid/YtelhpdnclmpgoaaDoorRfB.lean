/- The reference's floats: IsNaN, Canon; names. -/
import Derived.Test.YtelhpdnclmpgoaaDoorTbC
import Derived.Test.YtelhpdnclmpgoaaDoorQaB
import Derived.Test.YtelhpdnclmpgoaaDoorFloatL
import Derived.Test.YtelhpdnclmpgoaaDoorTbG
namespace Go.Proofs.YtelhpdnclmpgoaaDoor
open Go Go.RowKit
set_option linter.unusedSimpArgs false
set_option linter.unusedVariables false

theorem nan_rung (r : Nat) : nanB r = decide (2047 * 2 ^ 52 < r % 2 ^ 63) := by
  show ((Ieee.double.read r).order (Ieee.double.read r) != some .eq) = _
  unfold Ieee.Format.read
  dsimp only
  rw [FloatL.D_sgn, FloatL.D_inf, FloatL.D_bin]
  by_cases h1 : r % 2 ^ 63 < 2 ^ 52
  · rw [if_pos h1, decide_eq_false (by omega)]
    simp [Ieee.Datum.order]
  · rw [if_neg h1]
    by_cases h2 : r % 2 ^ 63 < 2047 * 2 ^ 52
    · rw [if_pos h2, decide_eq_false (by omega)]
      simp [Ieee.Datum.order]
    · rw [if_neg h2]
      by_cases h3 : r % 2 ^ 63 = 2047 * 2 ^ 52
      · rw [if_pos h3, decide_eq_false (by omega)]
        simp [Ieee.Datum.order]
      · rw [if_neg h3, decide_eq_true (by omega)]
        rfl
theorem nan_bits (r : Nat) : nanB r = (decide (r / 2 ^ 52 % 2048 = 2047) && decide (r % 2 ^ 52 ≠ 0)) := by
  rw [nan_rung]
  by_cases h : 2047 * 2 ^ 52 < r % 2 ^ 63
  · rw [decide_eq_true h, decide_eq_true (by omega), decide_eq_true (by omega)]
    rfl
  · rw [decide_eq_false h]
    by_cases h1 : r / 2 ^ 52 % 2048 = 2047
    · rw [decide_eq_true h1, decide_eq_false (by omega)]
      rfl
    · rw [decide_eq_false h1]
      rfl
theorem and_mask (n k : Nat) (hn : n < 2 ^ 64) (hk : k ≤ 64) : bits BinOp.and IntKind.u64 (n : Int) ((2 ^ k - 1 : Nat) : Int) = ((n % 2 ^ k : Nat) : Int) := by
  have e64 : IntKind.u64.bits = 64 := rfl
  have hm : (BitVec.ofInt IntKind.u64.bits (n : Int) &&& BitVec.ofInt IntKind.u64.bits ((2 ^ k - 1 : Nat) : Int)).toNat = n % 2 ^ k := by
    have h2 : 2 ^ k ≤ 2 ^ 64 := Nat.pow_le_pow_right (by omega) hk
    have h3 : 0 < 2 ^ k := Nat.two_pow_pos k
    rw [BitVec.toNat_and, BitVec.ofInt_natCast, BitVec.ofInt_natCast, BitVec.toNat_ofNat, BitVec.toNat_ofNat, e64, Nat.mod_eq_of_lt hn, Nat.mod_eq_of_lt (by omega), Nat.and_two_pow_sub_one_eq_mod]
  show IntKind.u64.wrap (((BitVec.ofInt IntKind.u64.bits (n : Int) &&& BitVec.ofInt IntKind.u64.bits ((2 ^ k - 1 : Nat) : Int)).toNat : Nat) : Int) = _
  rw [hm]
  have h4 : n % 2 ^ k ≤ n := Nat.mod_le _ _
  show ((n % 2 ^ k : Nat) : Int) % 18446744073709551616 = _
  omega
set_option maxRecDepth 100000 in
set_option maxHeartbeats 1000000 in
theorem bits_c {w : World} (r : Nat) : Calls Tryd.prog 73 #[.float .f64 r] w fun e w' => e = .returned (.int .u64 r) ∧ w = w' := by
  have q := bits64_run
  go_enter Tryd.func73, Tryd.ntmps73
  go_wp2_with fail
  go_ret
  exact ⟨rfl, rfl⟩
set_option maxRecDepth 100000 in
set_option maxHeartbeats 1000000 in
theorem isNaN_c {w : World} (r : Nat) (hr : r < 18446744073709551616) : Calls Tryd.prog 87 #[.float .f64 r] w fun e w' => e = .returned (.bool (nanB r)) ∧ w = w' := by
  have a1 : bits BinOp.and IntKind.u64 ((r : Int) / 4503599627370496) 2047 = ((r / 4503599627370496 % 2048 : Nat) : Int) := and_mask (r / 4503599627370496) 11 (by omega) (by omega)
  have a2 : bits BinOp.and IntKind.u64 (r : Int) 4503599627370495 = ((r % 4503599627370496 : Nat) : Int) := and_mask r 52 hr (by omega)
  have hb := nan_bits r
  rw [show (2 ^ 52 : Nat) = 4503599627370496 from rfl] at hb
  obtain ⟨x, hx⟩ : ∃ x, x = r / 4503599627370496 % 2048 := ⟨_, rfl⟩
  obtain ⟨y, hy⟩ : ∃ y, y = r % 4503599627370496 := ⟨_, rfl⟩
  rw [← hx] at a1 hb
  rw [← hy] at a2 hb
  rw [hb]
  clear hx hy hb
  by_cases h1 : x = 2047
  · subst h1
    by_cases h2 : y = 0
    · subst h2
      go_enter Tryd.func87, Tryd.ntmps87
      go_wp2_with fail
      refine (bits_c r).mono ?_
      rintro e w1 ⟨rfl, rfl⟩
      go_wp2_with fail
      go_ret
      exact ⟨by first | rfl | (simp; done), rfl⟩
    · have hyb : ((y : Int) == 0) = false := beq_eq_false_iff_ne.2 (by omega)
      have hyc : ((y : Int) != 0) = true := bne_iff_ne.2 (by omega)
      have e : (decide (2047 = 2047) && decide (y ≠ 0)) = true := by rw [decide_eq_true h2]; rfl
      rw [e]
      clear e h2
      go_enter Tryd.func87, Tryd.ntmps87
      go_wp2_with fail
      refine (bits_c r).mono ?_
      rintro e w1 ⟨rfl, rfl⟩
      go_wp2_with fail
      go_ret
      exact ⟨by first | rfl | (simp; done), rfl⟩
  · have hxb : ((x : Int) == 2047) = false := beq_eq_false_iff_ne.2 (by omega)
    have e : (decide (x = 2047) && decide (y ≠ 0)) = false := by rw [decide_eq_false h1]; rfl
    rw [e]
    clear e h1
    go_enter Tryd.func87, Tryd.ntmps87
    go_wp2_with fail
    refine (bits_c r).mono ?_
    rintro e w1 ⟨rfl, rfl⟩
    go_wp2_with fail
    go_ret
    exact ⟨by first | rfl | (simp; done), rfl⟩
set_option maxRecDepth 100000 in
set_option maxHeartbeats 1000000 in
theorem refCanon_c {w : World} (r : Nat) (hr : r < 18446744073709551616) : Calls Tryd.prog 75 #[.float .f64 r] w fun e w' => e = .returned (.float .f64 (canonR r)) ∧ w = w' := by
  have h := isNaN_c (w := w) r hr
  clear hr
  cases hn : nanB r with
  | true =>
    have e : canonR r = 9221120237041090561 := by unfold canonR; rw [hn]; rfl
    rw [e]
    rw [hn] at h
    clear e hn
    go_enter Tryd.func75, Tryd.ntmps75
    go_wp2_with fail
    refine h.mono ?_
    rintro e w1 ⟨rfl, rfl⟩
    go_wp2_with fail
    refine (from_c 9221120237041090561).mono ?_
    rintro e w1 ⟨rfl, rfl⟩
    go_wp2_with fail
    go_ret
    exact ⟨rfl, rfl⟩
  | false =>
    have e : canonR r = r := by unfold canonR; rw [hn]; rfl
    rw [e]
    rw [hn] at h
    clear e hn
    go_enter Tryd.func75, Tryd.ntmps75
    go_wp2_with fail
    refine h.mono ?_
    rintro e w1 ⟨rfl, rfl⟩
    go_wp2_with fail
    go_ret
    exact ⟨rfl, rfl⟩
end Go.Proofs.YtelhpdnclmpgoaaDoor
