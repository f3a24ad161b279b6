/- The reference's Good. -/
import Derived.Test.YtelhpdnclmpgoaaDoorRfC
import Derived.BigQuiet
import Derived.Deep.QuietTactic
namespace Go.Proofs.YtelhpdnclmpgoaaDoor
open Go Go.RowKit
set_option linter.unusedSimpArgs false
set_option linter.unusedVariables false

theorem refCanon_q {w : World} (r : Nat) (hr : r < 18446744073709551616) : Calls Tryd.prog 75 #[.float .f64 r] w fun e w' => e = .returned (.float .f64 (canonR r)) ∧ w' = w := (refCanon_c r hr).mono fun e w' ⟨a, b⟩ => ⟨a, b.symm⟩
theorem rawSame_q' {w : World} (r r' : Nat) : Calls Tryd.prog 74 #[.float .f64 r, .float .f64 r'] w fun e w' => e = .returned (.bool (decide (r = r'))) ∧ w' = w := (rawSame_c r r').mono fun e w' ⟨a, b⟩ => ⟨a, b.symm⟩

set_option maxRecDepth 100000 in
set_option maxHeartbeats 4000000 in
theorem refGood_c {w : World} (k n : Int) (t : ByteArray) (r : Nat) (hr64 : r < 18446744073709551616) :
    Calls Tryd.prog 54 #[.agg #[.int .i64 k, .int .i64 n, .string t, .float .f64 r]] w fun e w' => e = .returned (.bool (goodB k n t r)) ∧ Below w.heap.size w w' := by
  have bW := (Below.refl w.heap.size w).alloc (Nat.le_refl _) (.cells #[.int .i64 k, .int .i64 n, .string t, .float .f64 r] 83)
  have HR := Lib.hid hr64
  clear hr64
  have ht : (t = ByteArray.empty ∧ t.size = 0) ∨ (t.toList.isEmpty = false ∧ t.size ≠ 0) := by
    by_cases h : t.size = 0
    · exact .inl ⟨ba_nil h, h⟩
    · exact .inr ⟨ne_nil t (by omega), h⟩
  have hr : (r = 0) ∨ (r ≠ 0 ∧ ((r : Int) == 0) = false) := by by_cases h : r = 0; exact .inl h; exact .inr ⟨h, beq_eq_false_iff_ne.2 (by omega)⟩
  by_cases h1 : k = 1
  · subst h1
    rcases ht with ⟨rfl, hz⟩ | ⟨hE, hz⟩
    · rcases hr with rfl | ⟨hr, hrb⟩
      · skip
        have e : goodB 1 n ByteArray.empty 0 = true := by unfold goodB; simp
        rw [e]
        clear e
        go_enter Tryd.func54, Tryd.ntmps54
        go_wp2_with fail
        refine (bits_c _).mono ?_
        rintro e w1 ⟨rfl, rfl⟩
        go_wp2_with fail
        go_ret
        exact ⟨by first | rfl | (simp; done) | (simp; omega), bW⟩
      · skip
        have e : goodB 1 n ByteArray.empty r = false := by unfold goodB; simp [hr]
        rw [e]
        clear e
        go_enter Tryd.func54, Tryd.ntmps54
        go_wp2_with fail
        refine (bits_c _).mono ?_
        rintro e w1 ⟨rfl, rfl⟩
        go_wp2_with fail
        go_ret
        exact ⟨by first | rfl | (simp; done) | (simp; omega), bW⟩
    · skip
      have e : goodB 1 n t r = false := by unfold goodB; simp [hz]
      rw [e]
      clear e
      go_enter Tryd.func54, Tryd.ntmps54
      go_wp2_with fail
      refine (bits_c _).mono ?_
      rintro e w1 ⟨rfl, rfl⟩
      go_wp2_with fail
      go_ret
      exact ⟨by first | rfl | (simp; done) | (simp; omega), bW⟩
  have k1 : (k == 1) = false := beq_eq_false_iff_ne.2 h1
  by_cases h2 : k = 2
  · subst h2
    rcases ht with ⟨rfl, hz⟩ | ⟨hE, hz⟩
    · rcases hr with rfl | ⟨hr, hrb⟩
      · by_cases n0 : n < 0
        · skip
          have e : goodB 2 n ByteArray.empty 0 = false := by unfold goodB; simp; omega
          rw [e]
          clear e
          go_enter Tryd.func54, Tryd.ntmps54
          go_wp2_with fail
          refine (bits_c _).mono ?_
          rintro e w1 ⟨rfl, rfl⟩
          go_wp2_with fail
          go_ret
          exact ⟨by first | rfl | (simp; done) | (simp; omega), bW⟩
        by_cases n1 : 1 < n
        · have n0b : 0 ≤ n := by omega
          have e : goodB 2 n ByteArray.empty 0 = false := by unfold goodB; simp; omega
          rw [e]
          clear e
          go_enter Tryd.func54, Tryd.ntmps54
          go_wp2_with fail
          refine (bits_c _).mono ?_
          rintro e w1 ⟨rfl, rfl⟩
          go_wp2_with fail
          go_ret
          exact ⟨by first | rfl | (simp; done) | (simp; omega), bW⟩
        have n0b : 0 ≤ n := by omega
        have n1b : n ≤ 1 := by omega
        have e : goodB 2 n ByteArray.empty 0 = true := by unfold goodB; simp; omega
        rw [e]
        clear e n0 n1
        go_enter Tryd.func54, Tryd.ntmps54
        go_wp2_with fail
        refine (bits_c _).mono ?_
        rintro e w1 ⟨rfl, rfl⟩
        go_wp2_with fail
        go_ret
        exact ⟨by first | rfl | (simp; done) | (simp; omega), bW⟩
      · skip
        have e : goodB 2 n ByteArray.empty r = false := by unfold goodB; simp [hr]
        rw [e]
        clear e
        go_enter Tryd.func54, Tryd.ntmps54
        go_wp2_with fail
        refine (bits_c _).mono ?_
        rintro e w1 ⟨rfl, rfl⟩
        go_wp2_with fail
        go_ret
        exact ⟨by first | rfl | (simp; done) | (simp; omega), bW⟩
    · skip
      have e : goodB 2 n t r = false := by unfold goodB; simp [hz]
      rw [e]
      clear e
      go_enter Tryd.func54, Tryd.ntmps54
      go_wp2_with fail
      refine (bits_c _).mono ?_
      rintro e w1 ⟨rfl, rfl⟩
      go_wp2_with fail
      go_ret
      exact ⟨by first | rfl | (simp; done) | (simp; omega), bW⟩
  have k2 : (k == 2) = false := beq_eq_false_iff_ne.2 h2
  by_cases h3 : k = 3
  · subst h3
    by_cases n0 : n = 0
    · subst n0
      rcases hr with rfl | ⟨hr, hrb⟩
      · by_cases t0 : t.size ≤ 256
        · have t0I : (t.size : Int) ≤ 256 := by omega
          have e : goodB 3 0 t 0 = true := by unfold goodB; simp; omega
          rw [e]
          clear e ht
          go_enter Tryd.func54, Tryd.ntmps54
          go_wp2_with fail
          refine (bits_c _).mono ?_
          rintro e w1 ⟨rfl, rfl⟩
          go_wp2_with fail
          go_ret
          exact ⟨by first | rfl | (simp; done) | (simp; omega), bW⟩
        · have t0I : (256 : Int) < t.size := by omega
          have e : goodB 3 0 t 0 = false := by unfold goodB; simp; omega
          rw [e]
          clear e ht t0
          go_enter Tryd.func54, Tryd.ntmps54
          go_wp2_with fail
          refine (bits_c _).mono ?_
          rintro e w1 ⟨rfl, rfl⟩
          go_wp2_with fail
          go_ret
          exact ⟨by first | rfl | (simp; done) | (simp; omega), bW⟩
      · skip
        have e : goodB 3 0 t r = false := by unfold goodB; simp [hr]
        rw [e]
        clear e ht
        go_enter Tryd.func54, Tryd.ntmps54
        go_wp2_with fail
        refine (bits_c _).mono ?_
        rintro e w1 ⟨rfl, rfl⟩
        go_wp2_with fail
        go_ret
        exact ⟨by first | rfl | (simp; done) | (simp; omega), bW⟩
    · have n0b : (n == 0) = false := beq_eq_false_iff_ne.2 n0
      have e : goodB 3 n t r = false := by unfold goodB; simp [n0]
      rw [e]
      clear e ht
      go_enter Tryd.func54, Tryd.ntmps54
      go_wp2_with fail
      refine (bits_c _).mono ?_
      rintro e w1 ⟨rfl, rfl⟩
      go_wp2_with fail
      go_ret
      exact ⟨by first | rfl | (simp; done) | (simp; omega), bW⟩
  have k3 : (k == 3) = false := beq_eq_false_iff_ne.2 h3
  by_cases h4 : k = 4
  · subst h4
    by_cases n0 : n = 0
    · subst n0
      rcases ht with ⟨rfl, hz⟩ | ⟨hE, hz⟩
      · by_cases hc : r = canonR r
        · have hd : decide (r = canonR r) = true := decide_eq_true hc
          have e : goodB 4 0 ByteArray.empty r = true := by unfold goodB; simp; exact hc
          rw [e]
          clear e hc hr
          go_enter Tryd.func54, Tryd.ntmps54
          go_wp2_with fail
          refine (bits_c _).mono ?_
          rintro e w1 ⟨rfl, rfl⟩
          go_wp2_with fail
          go_quiet ((first | (go_at_call 74; with_reducible exact Calls.quiet_of_same (rawSame_q' _ _)) | (go_at_call 75; with_reducible exact Calls.quiet_of_same (refCanon_q _ HR.out))))
          go_wp2_with fail
          go_ret
          exact ⟨by first | rfl | (simp; done) | (simp; omega), bW.trans ((below_drewN _ _).mono bW.size)⟩
        · have hd : decide (r = canonR r) = false := decide_eq_false hc
          have e : goodB 4 0 ByteArray.empty r = false := by unfold goodB; simp; exact hc
          rw [e]
          clear e hc hr
          go_enter Tryd.func54, Tryd.ntmps54
          go_wp2_with fail
          refine (bits_c _).mono ?_
          rintro e w1 ⟨rfl, rfl⟩
          go_wp2_with fail
          go_quiet ((first | (go_at_call 74; with_reducible exact Calls.quiet_of_same (rawSame_q' _ _)) | (go_at_call 75; with_reducible exact Calls.quiet_of_same (refCanon_q _ HR.out))))
          go_wp2_with fail
          go_ret
          exact ⟨by first | rfl | (simp; done) | (simp; omega), bW.trans ((below_drewN _ _).mono bW.size)⟩
      · skip
        have e : goodB 4 0 t r = false := by unfold goodB; simp [hz]
        rw [e]
        clear e hr
        go_enter Tryd.func54, Tryd.ntmps54
        go_wp2_with fail
        refine (bits_c _).mono ?_
        rintro e w1 ⟨rfl, rfl⟩
        go_wp2_with fail
        go_quiet ((first | (go_at_call 74; with_reducible exact Calls.quiet_of_same (rawSame_q' _ _)) | (go_at_call 75; with_reducible exact Calls.quiet_of_same (refCanon_q _ HR.out))))
        go_wp2_with fail
        go_ret
        exact ⟨by first | rfl | (simp; done) | (simp; omega), bW.trans ((below_drewN _ _).mono bW.size)⟩
    · have n0b : (n == 0) = false := beq_eq_false_iff_ne.2 n0
      have e : goodB 4 n t r = false := by unfold goodB; simp [n0]
      rw [e]
      clear e ht hr
      go_enter Tryd.func54, Tryd.ntmps54
      go_wp2_with fail
      refine (bits_c _).mono ?_
      rintro e w1 ⟨rfl, rfl⟩
      go_wp2_with fail
      go_quiet ((first | (go_at_call 74; with_reducible exact Calls.quiet_of_same (rawSame_q' _ _)) | (go_at_call 75; with_reducible exact Calls.quiet_of_same (refCanon_q _ HR.out))))
      go_wp2_with fail
      go_ret
      exact ⟨by first | rfl | (simp; done) | (simp; omega), bW.trans ((below_drewN _ _).mono bW.size)⟩
  have k4 : (k == 4) = false := beq_eq_false_iff_ne.2 h4
  have e : goodB k n t r = false := by unfold goodB; simp [h1, h2, h3, h4]
  rw [e]
  clear e ht hr
  go_enter Tryd.func54, Tryd.ntmps54
  go_wp2_with fail
  refine (bits_c _).mono ?_
  rintro e w1 ⟨rfl, rfl⟩
  go_wp2_with fail
  go_quiet ((first | (go_at_call 74; with_reducible exact Calls.quiet_of_same (rawSame_q' _ _)) | (go_at_call 75; with_reducible exact Calls.quiet_of_same (refCanon_q _ HR.out))))
  go_wp2_with fail
  go_ret
  exact ⟨by first | rfl | (simp; done) | (simp; omega), bW.trans ((below_drewN _ _).mono bW.size)⟩
end Go.Proofs.YtelhpdnclmpgoaaDoor
