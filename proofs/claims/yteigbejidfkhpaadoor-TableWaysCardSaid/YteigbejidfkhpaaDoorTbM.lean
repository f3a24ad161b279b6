/- Plain law: a float's bytes tell the float. -/
import Derived.Test.YteigbejidfkhpaaDoorTbE
namespace Go.Proofs.YteigbejidfkhpaaDoor
open Go Go.RowKit
set_option linter.unusedSimpArgs false
set_option linter.unusedVariables false

theorem narB_spec {r n : Nat} (hn : nanB r = false) (h : narB r = some n) : ∃ v, widenE n = some v ∧ Ieee.double.order v r = some .eq ∧ v < 2 ^ 64 := by
  have hw : ∀ d, Ieee.double.write d < 2 ^ 64 := fun d => Ieee.Format.write_lt Ieee.double d
  cases hrd : Ieee.double.read r with
  | nan s t => exact absurd hrd (nar_nan hn s t)
  | infinity s =>
    have e : narB r = some (Ieee.single.write (.infinity s)) := by unfold narB; rw [if_neg (by rw [hn]; decide), hrd]
    rw [e] at h
    injection h with h
    subst h
    refine ⟨Ieee.double.write (.infinity s), by cases s <;> decide, ?_, hw _⟩
    unfold Ieee.Format.order
    rw [hrd, show Ieee.double.read (Ieee.double.write (.infinity s)) = .infinity s by cases s <;> decide]
    cases s <;> rfl
  | number s m e =>
    cases hi : (Ieee.single.read (Ieee.single.write (.number s m e))).isInfinity with
    | true =>
      have en : narB r = none := by unfold narB; rw [if_neg (by rw [hn]; decide), hrd]; show (if _ then _ else _) = _; rw [if_pos hi]
      rw [en] at h
      cases h
    | false =>
      cases hv : widenE (Ieee.single.write (.number s m e)) with
      | none => rw [narB_none hn hrd hi hv] at h; cases h
      | some v =>
        rw [narB_some hn hrd hi hv] at h
        split at h
        · rename_i ho
          injection h with h
          subst h
          refine ⟨v, hv, ho, ?_⟩
          unfold widenE at hv
          split at hv
          · injection hv with hv; rw [← hv]; exact hw _
          · injection hv with hv; rw [← hv]; exact hw _
          · cases hv
        · cases h

theorem narB_inj {r r' n : Nat} (hr : r < 2 ^ 64) (hr' : r' < 2 ^ 64) (hc : r = canonR r) (hc' : r' = canonR r') (h : narB r = some n) (h' : narB r' = some n) : r = r' := by
  have hnan : ∀ x, nanB x = true → narB x = some 2143289344 := fun x hx => by unfold narB; rw [if_pos hx]
  have hwn : widenE 2143289344 = none := by decide
  cases h1 : nanB r with
  | true =>
    cases h2 : nanB r' with
    | true => rw [hc, hc', canonR, canonR, h1, h2]; rfl
    | false =>
      rw [hnan r h1] at h
      injection h with h
      subst h
      obtain ⟨v, hv, _⟩ := narB_spec h2 h'
      rw [hwn] at hv
      cases hv
  | false =>
    cases h2 : nanB r' with
    | true =>
      rw [hnan r' h2] at h'
      injection h' with h'
      subst h'
      obtain ⟨v, hv, _⟩ := narB_spec h1 h
      rw [hwn] at hv
      cases hv
    | false =>
      obtain ⟨v, hv, ho, hl⟩ := narB_spec h1 h
      obtain ⟨v', hv', ho', _⟩ := narB_spec h2 h'
      rw [hv] at hv'
      injection hv' with hv'
      subst hv'
      have z0 : narB 0 = some 0 := by decide +kernel
      have z1 : narB (2 ^ 63) = some (2 ^ 31) := by decide +kernel
      rcases FloatL.order_eq hl hr ho with ⟨a, b⟩ | a
      · rcases FloatL.order_eq hl hr' ho' with ⟨c, d⟩ | c
        · have e1 : r = 0 ∨ r = 2 ^ 63 := by omega
          have e2 : r' = 0 ∨ r' = 2 ^ 63 := by omega
          rcases e1 with rfl | rfl <;> rcases e2 with rfl | rfl
          · rfl
          · rw [z0] at h; rw [z1] at h'; rw [← h] at h'; injection h' with h'; exact absurd h' (by decide)
          · rw [z1] at h; rw [z0] at h'; rw [← h] at h'; injection h' with h'; exact absurd h' (by decide)
          · rfl
        · subst c
          have e1 : r = 0 ∨ r = 2 ^ 63 := by omega
          have e2 : v = 0 ∨ v = 2 ^ 63 := by omega
          rcases e1 with rfl | rfl <;> rcases e2 with rfl | rfl
          · rfl
          · rw [z0] at h; rw [z1] at h'; rw [← h] at h'; injection h' with h'; exact absurd h' (by decide)
          · rw [z1] at h; rw [z0] at h'; rw [← h] at h'; injection h' with h'; exact absurd h' (by decide)
          · rfl
      · subst a
        rcases FloatL.order_eq hl hr' ho' with ⟨c, d⟩ | c
        · have e1 : v = 0 ∨ v = 2 ^ 63 := by omega
          have e2 : r' = 0 ∨ r' = 2 ^ 63 := by omega
          rcases e1 with rfl | rfl <;> rcases e2 with rfl | rfl
          · rfl
          · rw [z0] at h; rw [z1] at h'; rw [← h] at h'; injection h' with h'; exact absurd h' (by decide)
          · rw [z1] at h; rw [z0] at h'; rw [← h] at h'; injection h' with h'; exact absurd h' (by decide)
          · rfl
        · exact c
end Go.Proofs.YteigbejidfkhpaaDoor
