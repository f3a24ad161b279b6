/- The reference's names. -/
import Derived.Test.YtelhpdnclmpgoaaDoorRfB
namespace Go.Proofs.YtelhpdnclmpgoaaDoor
open Go Go.RowKit
set_option linter.unusedSimpArgs false
set_option linter.unusedVariables false

theorem dw_nil (p : UInt8 → Bool) : ∀ l : List UInt8, l.all p = true → l.dropWhile p = []
  | [], _ => rfl
  | a :: r, h => by
    rw [List.all_cons, Bool.and_eq_true] at h
    rw [List.dropWhile_cons_of_pos h.1]
    exact dw_nil p r h.2
theorem dw_some (p : UInt8 → Bool) : ∀ l : List UInt8, l.all p = false → ∃ c r, l.dropWhile p = c :: r ∧ p c = false
  | [], h => by cases h
  | a :: r, h => by
    cases ha : p a with
    | true =>
      rw [List.dropWhile_cons_of_pos ha]
      rw [List.all_cons, ha, Bool.true_and] at h
      exact dw_some p r h
    | false => exact ⟨a, r, List.dropWhile_cons_of_neg (by rw [ha]; decide), ha⟩
theorem trim_all (l cs : List UInt8) : (Lib.trimS l cs).isEmpty = l.all (cs.contains ·) := by
  unfold Lib.trimS Lib.trimLeftS Lib.trimRightS
  cases h : l.all (cs.contains ·) with
  | true =>
    rw [dw_nil _ l.reverse (by rw [List.all_reverse]; exact h)]
    rfl
  | false =>
    obtain ⟨c, r, h1, h2⟩ := dw_some (cs.contains ·) l.reverse (by rw [List.all_reverse]; exact h)
    rw [h1]
    obtain ⟨d, q, h3, _⟩ := dw_some (cs.contains ·) (c :: r).reverse (by rw [List.all_reverse, List.all_cons, h2]; rfl)
    rw [h3]
    rfl
def letC (c : UInt8) : Bool := letters.data.toList.contains c
theorem let_all : (List.range 256).all (fun n => letC (UInt8.ofNat n) == ((decide (97 ≤ n) && decide (n ≤ 122)) || (decide (48 ≤ n) && decide (n ≤ 57)) || decide (n = 45) || decide (n = 95))) = true := by decide +kernel
theorem let_eq (c : UInt8) : letC c = ((decide (97 ≤ c.toNat) && decide (c.toNat ≤ 122)) || (decide (48 ≤ c.toNat) && decide (c.toNat ≤ 57)) || decide (c.toNat = 45) || decide (c.toNat = 95)) := by
  have h := List.all_eq_true.1 let_all c.toNat (List.mem_range.2 (UInt8.toNat_lt c))
  rw [UInt8.ofNat_toNat] at h
  exact eq_of_beq h
theorem let_yes {c : UInt8} (h : letC c = true) : (97 ≤ c.toNat ∧ c.toNat ≤ 122) ∨ (48 ≤ c.toNat ∧ c.toNat ≤ 57) ∨ c.toNat = 45 ∨ c.toNat = 95 := by
  rw [let_eq] at h
  simp only [Bool.or_eq_true, Bool.and_eq_true, decide_eq_true_eq] at h
  omega
theorem let_no {c : UInt8} (h : letC c = false) : c.toNat < 45 ∨ (45 < c.toNat ∧ c.toNat < 48) ∨ (57 < c.toNat ∧ c.toNat < 95) ∨ c.toNat = 96 ∨ 122 < c.toNat := by
  rw [let_eq] at h
  simp only [Bool.or_eq_false_iff, Bool.and_eq_false_iff, decide_eq_false_iff_not] at h
  omega
theorem name_all (s : ByteArray) : nameB s = (decide (0 < s.size) && decide (s.size ≤ 16) && s.data.toList.all letC) := by
  unfold nameB
  rw [trim_all]
  rfl

set_option maxRecDepth 100000 in
set_option maxHeartbeats 2000000 in
theorem refName_c {w : World} (s : ByteArray) (hs : s.size ≤ 140737488351232) :
    Calls Tryd.prog 30 #[.string s] w fun e w' => e = .returned (.bool (nameB s)) ∧ w = w' := by
  have hna := name_all s
  obtain ⟨b, hb⟩ : ∃ b, b = nameB s := ⟨_, rfl⟩
  rw [← hb] at hna ⊢
  have HNA := Lib.hid hna
  have hs' : (s.size : Int) ≤ 140737488351232 := by omega
  clear hna hb hs
  go_enter Tryd.func30, Tryd.ntmps30
  go_wp2_with fail
  go_loop [3] (fun i => ∃ k : Nat, k ≤ s.size ∧ i = .int .i64 k ∧ Hid ((s.data.toList.take k).all letC = true)) (fun i => s.size - (intOf i).toNat)
  case atStart => exact ⟨0, Nat.zero_le _, rfl, Lib.hid rfl⟩
  case round =>
    obtain ⟨k, hk, rfl, HA⟩ := hrel
    by_cases hlt : k < s.size
    · have hlt' : (k : Int) < s.size := by omega
      cases hl : letC s[k] with
      | true =>
        have HA2 := Lib.hid (show (s.data.toList.take (k + 1)).all letC = true by rw [List.take_add_one, ba_at s k hlt, List.all_append, HA.out]; simp [hl])
        have hy := let_yes hl
        have HLT := Lib.hid hlt
        clear HA hl
        rcases hy with ⟨c0, c1⟩ | ⟨c0, c1⟩ | c0 | c0
        · have c0' : (97 : Int) ≤ s[k].toNat := by omega
          have c1' : (s[k].toNat : Int) ≤ 122 := by omega
          clear c0 c1
          go_wp2_with fail
          go_round
          case rel => exact ⟨k + 1, by omega, by go_num, HA2⟩
          case measure => have := HLT.out; simp [intOf]; omega
        · have c0' : (48 : Int) ≤ s[k].toNat := by omega
          have c1' : (s[k].toNat : Int) ≤ 57 := by omega
          have c2' : (s[k].toNat : Int) < 97 := by omega
          clear c0 c1
          go_wp2_with fail
          go_round
          case rel => exact ⟨k + 1, by omega, by go_num, HA2⟩
          case measure => have := HLT.out; simp [intOf]; omega
        · have c0' : (s[k].toNat : Int) = 45 := by omega
          clear c0
          go_wp2_with fail
          go_round
          case rel => exact ⟨k + 1, by omega, by go_num, HA2⟩
          case measure => have := HLT.out; simp [intOf]; omega
        · have b95 : ((s[k].toNat : Int) == 95) = true := beq_iff_eq.2 (by omega)
          have b45 : ((s[k].toNat : Int) == 45) = false := beq_eq_false_iff_ne.2 (by omega)
          have c0' : (s[k].toNat : Int) = 95 := by omega
          have c1' : (s[k].toNat : Int) < 97 := by omega
          have c2' : (48 : Int) ≤ s[k].toNat := by omega
          have c4' : (57 : Int) < s[k].toNat := by omega
          have d57 : decide ((s[k].toNat : Int) ≤ 57) = false := decide_eq_false (by omega)
          clear c0
          go_wp2_with fail
          · exfalso
            rename_i h _ _
            simp at h
            exact h.2 c0'
          go_round
          case rel => exact ⟨k + 1, by omega, by go_num, HA2⟩
          case measure => have := HLT.out; simp [intOf]; omega
      | false =>
        have hbf : b = false := by
          rw [HNA.out, show s.data.toList.all letC = false from ?_, Bool.and_false]
          rw [← Bool.not_eq_true, List.all_eq_true]
          intro h
          have := h s[k] (List.mem_of_getElem? (ba_at s k hlt))
          rw [hl] at this
          cases this
        have hy := let_no hl
        subst hbf
        clear HA hl HNA
        have e45 : (s[k].toNat : Int) ≠ 45 := by omega
        have e95 : (s[k].toNat : Int) ≠ 95 := by omega
        have b45 : ((s[k].toNat : Int) == 45) = false := beq_eq_false_iff_ne.2 e45
        have b95 : ((s[k].toNat : Int) == 95) = false := beq_eq_false_iff_ne.2 e95
        clear e45 e95
        rcases hy with c0 | ⟨c0, c1⟩ | ⟨c0, c1⟩ | c0 | c0
        · have c0' : (s[k].toNat : Int) < 48 := by omega
          have c2' : (s[k].toNat : Int) < 97 := by omega
          clear c0
          go_wp2_with fail
          go_ret
          exact ⟨rfl, rfl⟩
        · have c0' : (s[k].toNat : Int) < 48 := by omega
          have c2' : (s[k].toNat : Int) < 97 := by omega
          clear c0 c1
          go_wp2_with fail
          go_ret
          exact ⟨rfl, rfl⟩
        · have c0' : (57 : Int) < s[k].toNat := by omega
          have d57 : decide ((s[k].toNat : Int) ≤ 57) = false := decide_eq_false (by omega)
          have c1' : (s[k].toNat : Int) < 97 := by omega
          have c2' : (48 : Int) ≤ s[k].toNat := by omega
          clear c0 c1
          go_wp2_with fail
          go_ret
          exact ⟨rfl, rfl⟩
        · have c0' : (s[k].toNat : Int) = 96 := by omega
          clear c0 b45 b95
          go_wp2_with fail
          go_ret
          exact ⟨rfl, rfl⟩
        · have c0' : (122 : Int) < s[k].toNat := by omega
          have c2' : (48 : Int) ≤ s[k].toNat := by omega
          have c3' : (97 : Int) ≤ s[k].toNat := by omega
          have c4' : (57 : Int) < s[k].toNat := by omega
          have d57 : decide ((s[k].toNat : Int) ≤ 57) = false := decide_eq_false (by omega)
          have d122 : decide ((s[k].toNat : Int) ≤ 122) = false := decide_eq_false (by omega)
          clear c0
          go_wp2_with fail
          go_ret
          exact ⟨rfl, rfl⟩
    · have hd : s.data.toList.take k = s.data.toList := List.take_of_length_le (by rw [ba_size]; omega)
      rw [hd] at HA
      have hb2 : b = (decide (0 < s.size) && decide (s.size ≤ 16)) := by rw [HNA.out, HA.out, Bool.and_true]
      have hge : (s.size : Int) ≤ k := by omega
      clear HNA HA hd hlt
      by_cases h0 : 0 < s.size
      · by_cases h1 : s.size ≤ 16
        · obtain rfl : b = true := by rw [hb2, decide_eq_true h0, decide_eq_true h1]; rfl
          have h0' : (1 : Int) ≤ s.size := by omega
          have h1' : (s.size : Int) ≤ 16 := by omega
          clear hb2 h0 h1
          go_wp2_with fail
          go_ret
          exact ⟨by first | rfl | (show Ending.returned (Value.bool (decide ((s.size : Int) ≤ 16))) = _; rw [decide_eq_true h1']) | (show Ending.returned (Value.bool (decide ((s.size : Int) ≤ 16))) = _; rw [decide_eq_false (by omega)]), rfl⟩
        · obtain rfl : b = false := by rw [hb2, decide_eq_false h1, Bool.and_false]
          have h1' : (16 : Int) < s.size := by omega
          clear hb2 h0 h1
          go_wp2_with fail
          go_ret
          exact ⟨by first | rfl | (show Ending.returned (Value.bool (decide ((s.size : Int) ≤ 16))) = _; rw [decide_eq_true h1']) | (show Ending.returned (Value.bool (decide ((s.size : Int) ≤ 16))) = _; rw [decide_eq_false (by omega)]), rfl⟩
      · obtain rfl : b = false := by rw [hb2, decide_eq_false h0, Bool.false_and]
        have h1' : (s.size : Int) < 1 := by omega
        clear hb2 h0
        go_wp2_with fail
        go_ret
        exact ⟨by first | rfl | (show Ending.returned (Value.bool (decide ((s.size : Int) ≤ 16))) = _; rw [decide_eq_true h1']) | (show Ending.returned (Value.bool (decide ((s.size : Int) ≤ 16))) = _; rw [decide_eq_false (by omega)]), rfl⟩
end Go.Proofs.YtelhpdnclmpgoaaDoor
