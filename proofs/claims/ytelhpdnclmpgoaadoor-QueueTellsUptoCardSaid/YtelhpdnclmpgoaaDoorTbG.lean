/- The reference's sameness: floats, values, lists of properties. -/
import Derived.Test.YtelhpdnclmpgoaaDoorTbC
namespace Go.Proofs.YtelhpdnclmpgoaaDoor
open Go Go.RowKit Go.Sort
set_option linter.unusedSimpArgs false
set_option linter.unusedVariables false

theorem str_ne {a b : ByteArray} (h : a ≠ b) : (a.toList == b.toList) = false := by
  refine beq_eq_false_iff_ne.2 fun e => h ?_
  rw [ByteArray.toList_eq, ByteArray.toList_eq] at e
  exact ba_ext e

set_option maxRecDepth 100000 in
theorem rawSame_c {w : World} (r r' : Nat) :
    Calls Tryd.prog 74 #[.float .f64 r, .float .f64 r'] w fun e w' => e = .returned (.bool (decide (r = r'))) ∧ w = w' := by
  have q := bits64_run
  by_cases h : r = r'
  · subst h
    rw [decide_eq_true rfl]
    go_enter Tryd.func74, Tryd.ntmps74
    go_wp2_with fail
    go_ret
    exact ⟨rfl, rfl⟩
  · have hb : ((r : Int) == (r' : Int)) = false := beq_eq_false_iff_ne.2 (by omega)
    rw [decide_eq_false h]
    clear h
    go_enter Tryd.func74, Tryd.ntmps74
    go_wp2_with fail
    go_ret
    exact ⟨rfl, rfl⟩

def valSame (k n : Int) (t : ByteArray) (r : Nat) (k' n' : Int) (t' : ByteArray) (r' : Nat) : Bool := decide (k = k' ∧ n = n' ∧ t = t' ∧ r = r')
set_option maxRecDepth 100000 in
set_option maxHeartbeats 1000000 in
theorem valSame_c {w : World} (k n : Int) (t : ByteArray) (r : Nat) (k' n' : Int) (t' : ByteArray) (r' : Nat) :
    Calls Tryd.prog 60 #[.agg #[.int .i64 k, .int .i64 n, .string t, .float .f64 r], .agg #[.int .i64 k', .int .i64 n', .string t', .float .f64 r']] w fun e w' => e = .returned (.bool (valSame k n t r k' n' t' r')) ∧ Below w.heap.size w w' := by
  have bW := ((Below.refl w.heap.size w).alloc (Nat.le_refl _) (.cells #[.int .i64 k, .int .i64 n, .string t, .float .f64 r] 83)).alloc (by show _ ≤ (w.heap.push _).size; simp) (.cells #[.int .i64 k', .int .i64 n', .string t', .float .f64 r'] 83)
  by_cases hk : k = k'
  · subst hk
    by_cases hn : n = n'
    · subst hn
      by_cases ht : t = t'
      · subst ht
        have e : valSame k n t r k n t r' = decide (r = r') := by unfold valSame; simp
        rw [e]
        clear e
        go_enter Tryd.func60, Tryd.ntmps60
        go_wp2_with fail
        refine (rawSame_c r r').mono ?_
        rintro e w1 ⟨rfl, rfl⟩
        go_wp2_with fail
        go_ret
        exact ⟨rfl, bW⟩
      · have e : valSame k n t r k n t' r' = false := by unfold valSame; simp [ht]
        have ht' := str_ne ht
        rw [e]
        clear e ht
        go_enter Tryd.func60, Tryd.ntmps60
        go_wp2_with fail
        go_ret
        exact ⟨rfl, bW⟩
    · have e : valSame k n t r k n' t' r' = false := by unfold valSame; simp [hn]
      have hn' : (n == n') = false := beq_eq_false_iff_ne.2 hn
      rw [e]
      clear e hn
      go_enter Tryd.func60, Tryd.ntmps60
      go_wp2_with fail
      go_ret
      exact ⟨rfl, bW⟩
  · have e : valSame k n t r k' n' t' r' = false := by unfold valSame; simp [hk]
    have hk' : (k == k') = false := beq_eq_false_iff_ne.2 hk
    rw [e]
    clear e hk
    go_enter Tryd.func60, Tryd.ntmps60
    go_wp2_with fail
    go_ret
    exact ⟨rfl, bW⟩
end Go.Proofs.YtelhpdnclmpgoaaDoor
