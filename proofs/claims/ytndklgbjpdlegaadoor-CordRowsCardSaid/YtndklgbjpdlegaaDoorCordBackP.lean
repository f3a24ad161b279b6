/- Parts that are read back: the plain law. -/
import Derived.Test.YtndklgbjpdlegaaDoorCordT
namespace Go.Proofs.YtndklgbjpdlegaaDoor
open Go Go.RowKit
set_option linter.unusedSimpArgs false
set_option linter.unusedVariables false

/-- What a read of a part of that kind leaves. -/
def readP (p : Prt) (l : List UInt8) (bad : Bool) : List UInt8 × Bool := if p.text = true then (rStr l bad).2 else (rNum l bad).2

theorem partsB_drop {ps : List Prt} {k : Nat} {p : Prt} (h : ps[k]? = some p) : partsB (ps.drop k) = partB p ++ partsB (ps.drop (k + 1)) := by
  obtain ⟨hk, he⟩ := List.getElem?_eq_some_iff.1 h
  rw [List.drop_eq_getElem_cons hk, he]
  simp [partsB]

theorem rNum_stays (l : List UInt8) : (rNum l true).2.2 = true := by
  unfold rNum
  split <;> rfl
theorem rStr_stays (l : List UInt8) : (rStr l true).2.2 = true := by
  unfold rStr
  split <;> rfl

theorem readP_stays (p : Prt) (l : List UInt8) : (readP p l true).2 = true := by
  unfold readP
  split
  · exact rStr_stays l
  · exact rNum_stays l

theorem readP_short {p : Prt} (hp : p.ok) {l q r : List UInt8} (hq : q ≠ []) (h : l ++ q = partB p ++ r) :
    (∃ l', l = partB p ++ l' ∧ l' ++ q = r ∧ readP p l false = (l', false)) ∨ (readP p l false).2 = true := by
  have hsl := slen hp
  by_cases hlen : (partB p).length ≤ l.length
  · left
    have e1 : l = partB p ++ l.drop (partB p).length := by
      have h1 : (l ++ q).take (partB p).length = partB p := by rw [h]; simp
      rw [List.take_append_of_le_length hlen] at h1
      have h2 := List.take_append_drop (partB p).length l
      rw [h1] at h2
      exact h2.symm
    refine ⟨l.drop (partB p).length, e1, ?_, ?_⟩
    · rw [e1, List.append_assoc] at h
      exact List.append_cancel_left h
    · unfold readP
      conv => lhs; rw [e1]
      generalize l.drop (partB p).length = l'
      unfold partB
      by_cases ht : p.text = true
      · rw [if_pos ht, if_pos ht, rStr_put _ _ (by omega)]
      · rw [if_neg ht, if_neg ht, rNum_put _ hp.1.1 hp.1.2]
  · right
    have hq' : ∃ q', q' ≠ [] ∧ l ++ q' = partB p := by
      refine ⟨(partB p).drop l.length, ?_, ?_⟩
      · intro he
        have := congrArg List.length he
        rw [List.length_drop, List.length_nil] at this
        omega
      · have h1 : (partB p ++ r).take l.length = l := by rw [← h]; simp
        rw [List.take_append_of_le_length (by omega)] at h1
        have h2 := List.take_append_drop l.length (partB p)
        rw [h1] at h2
        exact h2
    obtain ⟨q', hq1, hq2⟩ := hq'
    unfold readP
    unfold partB at hq2
    by_cases ht : p.text = true
    · rw [if_pos ht] at hq2 ⊢
      rw [rStr_short _ (by omega) l q' hq1 hq2]
    · rw [if_neg ht] at hq2 ⊢
      rw [rNum_short _ hp.1.1 hp.1.2 l q' hq1 hq2]
end Go.Proofs.YtndklgbjpdlegaaDoor
