/- Plain law: a property list's bytes tell the list. -/
import Derived.Test.YteigbejidfkhpaaDoorTbM
import Derived.Test.YteigbejidfkhpaaDoorTbF
namespace Go.Proofs.YteigbejidfkhpaaDoor
open Go Go.RowKit
set_option linter.unusedSimpArgs false
set_option linter.unusedVariables false

theorem beB_inj {n m k : Nat} (hn : n < 256 ^ k) (hm : m < 256 ^ k) (h : beB n k = beB m k) : n = m := by
  have := congrArg natB h
  rwa [natB_beB, natB_beB, Nat.mod_eq_of_lt hn, Nat.mod_eq_of_lt hm] at this
theorem realB_inj {r r' : Nat} {u u' : List UInt8} (hr : r < 2 ^ 64) (hr' : r' < 2 ^ 64) (hc : r = canonR r) (hc' : r' = canonR r') (h : realB r ++ u = realB r' ++ u') : r = r' ∧ u = u' := by
  unfold realB at h
  cases h1 : narB r with
  | none =>
    rw [h1] at h
    cases h2 : narB r' with
    | none =>
      rw [h2] at h
      simp only [List.cons_append, List.cons.injEq, true_and] at h
      obtain ⟨a, b⟩ := List.append_inj h (by rw [beB_len, beB_len])
      exact ⟨beB_inj (by simpa using hr) (by simpa using hr') a, b⟩
    | some n => rw [h2] at h; simp at h
  | some n =>
    rw [h1] at h
    cases h2 : narB r' with
    | none => rw [h2] at h; simp at h
    | some m =>
      rw [h2] at h
      simp only [List.cons_append, List.cons.injEq, true_and] at h
      obtain ⟨a, b⟩ := List.append_inj h (by rw [beB_len, beB_len])
      have hnm : n = m := beB_inj (by have := narB_lt h1; simpa using this) (by have := narB_lt h2; simpa using this) a
      subst hnm
      exact ⟨narB_inj hr hr' hc hc' h1 h2, b⟩
end Go.Proofs.YteigbejidfkhpaaDoor
