/- Texts of this claim, joined: RfC, RfD, RfE, TkD, RkB, TkE, TkF, RkC, RhA, RfN, RfP, RfQ, RfR, RhB, RhC, TbH, TbI, TbJ, TbK. -/
import Derived.Test.YteigbejidfkhpaaDoorMTtb1
import Derived.BigQuiet
import Derived.Deep.QuietTactic
import Derived.Deep.DeepCutAuto
import Derived.Deep.CutRange
import Derived.Defers
import Derived.Recover
import Derived.Deep.AppendLies
/- The reference's names. -/
namespace Go.Proofs.YteigbejidfkhpaaDoor
open Go Go.RowKit
set_option linter.unusedSimpArgs false
set_option linter.unusedVariables false

theorem dw_nil (p : UInt8 → Bool) : ∀ l : List UInt8, l.all p = true → l.dropWhile p = []
  | [], _ => rfl
  | a :: r, h => by
    rw [List.all_cons, Bool.and_eq_true] at h
    rw [List.dropWhile_cons_of_pos h.1]
    exact dw_nil p r h.2
theorem dw_some (p : UInt8 → Bool) : ∀ l : List UInt8, l.all p = false → ∃ c r, l.dropWhile p = c :: r ∧ p c = false
  | [], h => by cases h
  | a :: r, h => by
    cases ha : p a with
    | true =>
      rw [List.dropWhile_cons_of_pos ha]
      rw [List.all_cons, ha, Bool.true_and] at h
      exact dw_some p r h
    | false => exact ⟨a, r, List.dropWhile_cons_of_neg (by rw [ha]; decide), ha⟩
theorem trim_all (l cs : List UInt8) : (Lib.trimS l cs).isEmpty = l.all (cs.contains ·) := by
  unfold Lib.trimS Lib.trimLeftS Lib.trimRightS
  cases h : l.all (cs.contains ·) with
  | true =>
    rw [dw_nil _ l.reverse (by rw [List.all_reverse]; exact h)]
    rfl
  | false =>
    obtain ⟨c, r, h1, h2⟩ := dw_some (cs.contains ·) l.reverse (by rw [List.all_reverse]; exact h)
    rw [h1]
    obtain ⟨d, q, h3, _⟩ := dw_some (cs.contains ·) (c :: r).reverse (by rw [List.all_reverse, List.all_cons, h2]; rfl)
    rw [h3]
    rfl
def letC (c : UInt8) : Bool := letters.data.toList.contains c
theorem let_all : (List.range 256).all (fun n => letC (UInt8.ofNat n) == ((decide (97 ≤ n) && decide (n ≤ 122)) || (decide (48 ≤ n) && decide (n ≤ 57)) || decide (n = 45) || decide (n = 95))) = true := by decide +kernel
theorem let_eq (c : UInt8) : letC c = ((decide (97 ≤ c.toNat) && decide (c.toNat ≤ 122)) || (decide (48 ≤ c.toNat) && decide (c.toNat ≤ 57)) || decide (c.toNat = 45) || decide (c.toNat = 95)) := by
  have h := List.all_eq_true.1 let_all c.toNat (List.mem_range.2 (UInt8.toNat_lt c))
  rw [UInt8.ofNat_toNat] at h
  exact eq_of_beq h
theorem let_yes {c : UInt8} (h : letC c = true) : (97 ≤ c.toNat ∧ c.toNat ≤ 122) ∨ (48 ≤ c.toNat ∧ c.toNat ≤ 57) ∨ c.toNat = 45 ∨ c.toNat = 95 := by
  rw [let_eq] at h
  simp only [Bool.or_eq_true, Bool.and_eq_true, decide_eq_true_eq] at h
  omega
theorem let_no {c : UInt8} (h : letC c = false) : c.toNat < 45 ∨ (45 < c.toNat ∧ c.toNat < 48) ∨ (57 < c.toNat ∧ c.toNat < 95) ∨ c.toNat = 96 ∨ 122 < c.toNat := by
  rw [let_eq] at h
  simp only [Bool.or_eq_false_iff, Bool.and_eq_false_iff, decide_eq_false_iff_not] at h
  omega
theorem name_all (s : ByteArray) : nameB s = (decide (0 < s.size) && decide (s.size ≤ 16) && s.data.toList.all letC) := by
  unfold nameB
  rw [trim_all]
  rfl

set_option maxRecDepth 100000 in
set_option maxHeartbeats 2000000 in
theorem refName_c {w : World} (s : ByteArray) (hs : s.size ≤ 140737488351232) :
    Calls Tryd.prog 56 #[.string s] w fun e w' => e = .returned (.bool (nameB s)) ∧ w = w' := by
  have hna := name_all s
  obtain ⟨b, hb⟩ : ∃ b, b = nameB s := ⟨_, rfl⟩
  rw [← hb] at hna ⊢
  have HNA := Lib.hid hna
  have hs' : (s.size : Int) ≤ 140737488351232 := by omega
  clear hna hb hs
  go_enter Tryd.func56, Tryd.ntmps56
  go_wp2_with fail
  go_loop [3] (fun i => ∃ k : Nat, k ≤ s.size ∧ i = .int .i64 k ∧ Hid ((s.data.toList.take k).all letC = true)) (fun i => s.size - (intOf i).toNat)
  case atStart => exact ⟨0, Nat.zero_le _, rfl, Lib.hid rfl⟩
  case round =>
    obtain ⟨k, hk, rfl, HA⟩ := hrel
    by_cases hlt : k < s.size
    · have hlt' : (k : Int) < s.size := by omega
      cases hl : letC s[k] with
      | true =>
        have HA2 := Lib.hid (show (s.data.toList.take (k + 1)).all letC = true by rw [List.take_add_one, ba_at s k hlt, List.all_append, HA.out]; simp [hl])
        have hy := let_yes hl
        have HLT := Lib.hid hlt
        clear HA hl
        rcases hy with ⟨c0, c1⟩ | ⟨c0, c1⟩ | c0 | c0
        · have c0' : (97 : Int) ≤ s[k].toNat := by omega
          have c1' : (s[k].toNat : Int) ≤ 122 := by omega
          clear c0 c1
          go_wp2_with fail
          go_round
          case rel => exact ⟨k + 1, by omega, by go_num, HA2⟩
          case measure => have := HLT.out; simp [intOf]; omega
        · have c0' : (48 : Int) ≤ s[k].toNat := by omega
          have c1' : (s[k].toNat : Int) ≤ 57 := by omega
          have c2' : (s[k].toNat : Int) < 97 := by omega
          clear c0 c1
          go_wp2_with fail
          go_round
          case rel => exact ⟨k + 1, by omega, by go_num, HA2⟩
          case measure => have := HLT.out; simp [intOf]; omega
        · have c0' : (s[k].toNat : Int) = 45 := by omega
          clear c0
          go_wp2_with fail
          go_round
          case rel => exact ⟨k + 1, by omega, by go_num, HA2⟩
          case measure => have := HLT.out; simp [intOf]; omega
        · have b95 : ((s[k].toNat : Int) == 95) = true := beq_iff_eq.2 (by omega)
          have b45 : ((s[k].toNat : Int) == 45) = false := beq_eq_false_iff_ne.2 (by omega)
          have c0' : (s[k].toNat : Int) = 95 := by omega
          have c1' : (s[k].toNat : Int) < 97 := by omega
          have c2' : (48 : Int) ≤ s[k].toNat := by omega
          have c4' : (57 : Int) < s[k].toNat := by omega
          have d57 : decide ((s[k].toNat : Int) ≤ 57) = false := decide_eq_false (by omega)
          clear c0
          go_wp2_with fail
          · exfalso
            rename_i h _ _
            simp at h
            exact h.2 c0'
          go_round
          case rel => exact ⟨k + 1, by omega, by go_num, HA2⟩
          case measure => have := HLT.out; simp [intOf]; omega
      | false =>
        have hbf : b = false := by
          rw [HNA.out, show s.data.toList.all letC = false from ?_, Bool.and_false]
          rw [← Bool.not_eq_true, List.all_eq_true]
          intro h
          have := h s[k] (List.mem_of_getElem? (ba_at s k hlt))
          rw [hl] at this
          cases this
        have hy := let_no hl
        subst hbf
        clear HA hl HNA
        have e45 : (s[k].toNat : Int) ≠ 45 := by omega
        have e95 : (s[k].toNat : Int) ≠ 95 := by omega
        have b45 : ((s[k].toNat : Int) == 45) = false := beq_eq_false_iff_ne.2 e45
        have b95 : ((s[k].toNat : Int) == 95) = false := beq_eq_false_iff_ne.2 e95
        clear e45 e95
        rcases hy with c0 | ⟨c0, c1⟩ | ⟨c0, c1⟩ | c0 | c0
        · have c0' : (s[k].toNat : Int) < 48 := by omega
          have c2' : (s[k].toNat : Int) < 97 := by omega
          clear c0
          go_wp2_with fail
          go_ret
          exact ⟨rfl, rfl⟩
        · have c0' : (s[k].toNat : Int) < 48 := by omega
          have c2' : (s[k].toNat : Int) < 97 := by omega
          clear c0 c1
          go_wp2_with fail
          go_ret
          exact ⟨rfl, rfl⟩
        · have c0' : (57 : Int) < s[k].toNat := by omega
          have d57 : decide ((s[k].toNat : Int) ≤ 57) = false := decide_eq_false (by omega)
          have c1' : (s[k].toNat : Int) < 97 := by omega
          have c2' : (48 : Int) ≤ s[k].toNat := by omega
          clear c0 c1
          go_wp2_with fail
          go_ret
          exact ⟨rfl, rfl⟩
        · have c0' : (s[k].toNat : Int) = 96 := by omega
          clear c0 b45 b95
          go_wp2_with fail
          go_ret
          exact ⟨rfl, rfl⟩
        · have c0' : (122 : Int) < s[k].toNat := by omega
          have c2' : (48 : Int) ≤ s[k].toNat := by omega
          have c3' : (97 : Int) ≤ s[k].toNat := by omega
          have c4' : (57 : Int) < s[k].toNat := by omega
          have d57 : decide ((s[k].toNat : Int) ≤ 57) = false := decide_eq_false (by omega)
          have d122 : decide ((s[k].toNat : Int) ≤ 122) = false := decide_eq_false (by omega)
          clear c0
          go_wp2_with fail
          go_ret
          exact ⟨rfl, rfl⟩
    · have hd : s.data.toList.take k = s.data.toList := List.take_of_length_le (by rw [ba_size]; omega)
      rw [hd] at HA
      have hb2 : b = (decide (0 < s.size) && decide (s.size ≤ 16)) := by rw [HNA.out, HA.out, Bool.and_true]
      have hge : (s.size : Int) ≤ k := by omega
      clear HNA HA hd hlt
      by_cases h0 : 0 < s.size
      · by_cases h1 : s.size ≤ 16
        · obtain rfl : b = true := by rw [hb2, decide_eq_true h0, decide_eq_true h1]; rfl
          have h0' : (1 : Int) ≤ s.size := by omega
          have h1' : (s.size : Int) ≤ 16 := by omega
          clear hb2 h0 h1
          go_wp2_with fail
          go_ret
          exact ⟨by first | rfl | (show Ending.returned (Value.bool (decide ((s.size : Int) ≤ 16))) = _; rw [decide_eq_true h1']) | (show Ending.returned (Value.bool (decide ((s.size : Int) ≤ 16))) = _; rw [decide_eq_false (by omega)]), rfl⟩
        · obtain rfl : b = false := by rw [hb2, decide_eq_false h1, Bool.and_false]
          have h1' : (16 : Int) < s.size := by omega
          clear hb2 h0 h1
          go_wp2_with fail
          go_ret
          exact ⟨by first | rfl | (show Ending.returned (Value.bool (decide ((s.size : Int) ≤ 16))) = _; rw [decide_eq_true h1']) | (show Ending.returned (Value.bool (decide ((s.size : Int) ≤ 16))) = _; rw [decide_eq_false (by omega)]), rfl⟩
      · obtain rfl : b = false := by rw [hb2, decide_eq_false h0, Bool.false_and]
        have h1' : (s.size : Int) < 1 := by omega
        clear hb2 h0
        go_wp2_with fail
        go_ret
        exact ⟨by first | rfl | (show Ending.returned (Value.bool (decide ((s.size : Int) ≤ 16))) = _; rw [decide_eq_true h1']) | (show Ending.returned (Value.bool (decide ((s.size : Int) ≤ 16))) = _; rw [decide_eq_false (by omega)]), rfl⟩
end Go.Proofs.YteigbejidfkhpaaDoor

/- The reference's Good. -/
namespace Go.Proofs.YteigbejidfkhpaaDoor
open Go Go.RowKit
set_option linter.unusedSimpArgs false
set_option linter.unusedVariables false

theorem refCanon_q {w : World} (r : Nat) (hr : r < 18446744073709551616) : Calls Tryd.prog 70 #[.float .f64 r] w fun e w' => e = .returned (.float .f64 (canonR r)) ∧ w' = w := (refCanon_c r hr).mono fun e w' ⟨a, b⟩ => ⟨a, b.symm⟩
theorem rawSame_q' {w : World} (r r' : Nat) : Calls Tryd.prog 22 #[.float .f64 r, .float .f64 r'] w fun e w' => e = .returned (.bool (decide (r = r'))) ∧ w' = w := (rawSame_c r r').mono fun e w' ⟨a, b⟩ => ⟨a, b.symm⟩

set_option maxRecDepth 100000 in
set_option maxHeartbeats 4000000 in
theorem refGood_c {w : World} (k n : Int) (t : ByteArray) (r : Nat) (hr64 : r < 18446744073709551616) :
    Calls Tryd.prog 57 #[.agg #[.int .i64 k, .int .i64 n, .string t, .float .f64 r]] w fun e w' => e = .returned (.bool (goodB k n t r)) ∧ Below w.heap.size w w' := by
  have bW := (Below.refl w.heap.size w).alloc (Nat.le_refl _) (.cells #[.int .i64 k, .int .i64 n, .string t, .float .f64 r] 46)
  have HR := Lib.hid hr64
  clear hr64
  have ht : (t = ByteArray.empty ∧ t.size = 0) ∨ (t.toList.isEmpty = false ∧ t.size ≠ 0) := by
    by_cases h : t.size = 0
    · exact .inl ⟨ba_nil h, h⟩
    · exact .inr ⟨ne_nil t (by omega), h⟩
  have hr : (r = 0) ∨ (r ≠ 0 ∧ ((r : Int) == 0) = false) := by by_cases h : r = 0; exact .inl h; exact .inr ⟨h, beq_eq_false_iff_ne.2 (by omega)⟩
  by_cases h1 : k = 1
  · subst h1
    rcases ht with ⟨rfl, hz⟩ | ⟨hE, hz⟩
    · rcases hr with rfl | ⟨hr, hrb⟩
      · skip
        have e : goodB 1 n ByteArray.empty 0 = true := by unfold goodB; simp
        rw [e]
        clear e
        go_enter Tryd.func57, Tryd.ntmps57
        go_wp2_with fail
        refine (bits_c _).mono ?_
        rintro e w1 ⟨rfl, rfl⟩
        go_wp2_with fail
        go_ret
        exact ⟨by first | rfl | (simp; done) | (simp; omega), bW⟩
      · skip
        have e : goodB 1 n ByteArray.empty r = false := by unfold goodB; simp [hr]
        rw [e]
        clear e
        go_enter Tryd.func57, Tryd.ntmps57
        go_wp2_with fail
        refine (bits_c _).mono ?_
        rintro e w1 ⟨rfl, rfl⟩
        go_wp2_with fail
        go_ret
        exact ⟨by first | rfl | (simp; done) | (simp; omega), bW⟩
    · skip
      have e : goodB 1 n t r = false := by unfold goodB; simp [hz]
      rw [e]
      clear e
      go_enter Tryd.func57, Tryd.ntmps57
      go_wp2_with fail
      refine (bits_c _).mono ?_
      rintro e w1 ⟨rfl, rfl⟩
      go_wp2_with fail
      go_ret
      exact ⟨by first | rfl | (simp; done) | (simp; omega), bW⟩
  have k1 : (k == 1) = false := beq_eq_false_iff_ne.2 h1
  by_cases h2 : k = 2
  · subst h2
    rcases ht with ⟨rfl, hz⟩ | ⟨hE, hz⟩
    · rcases hr with rfl | ⟨hr, hrb⟩
      · by_cases n0 : n < 0
        · skip
          have e : goodB 2 n ByteArray.empty 0 = false := by unfold goodB; simp; omega
          rw [e]
          clear e
          go_enter Tryd.func57, Tryd.ntmps57
          go_wp2_with fail
          refine (bits_c _).mono ?_
          rintro e w1 ⟨rfl, rfl⟩
          go_wp2_with fail
          go_ret
          exact ⟨by first | rfl | (simp; done) | (simp; omega), bW⟩
        by_cases n1 : 1 < n
        · have n0b : 0 ≤ n := by omega
          have e : goodB 2 n ByteArray.empty 0 = false := by unfold goodB; simp; omega
          rw [e]
          clear e
          go_enter Tryd.func57, Tryd.ntmps57
          go_wp2_with fail
          refine (bits_c _).mono ?_
          rintro e w1 ⟨rfl, rfl⟩
          go_wp2_with fail
          go_ret
          exact ⟨by first | rfl | (simp; done) | (simp; omega), bW⟩
        have n0b : 0 ≤ n := by omega
        have n1b : n ≤ 1 := by omega
        have e : goodB 2 n ByteArray.empty 0 = true := by unfold goodB; simp; omega
        rw [e]
        clear e n0 n1
        go_enter Tryd.func57, Tryd.ntmps57
        go_wp2_with fail
        refine (bits_c _).mono ?_
        rintro e w1 ⟨rfl, rfl⟩
        go_wp2_with fail
        go_ret
        exact ⟨by first | rfl | (simp; done) | (simp; omega), bW⟩
      · skip
        have e : goodB 2 n ByteArray.empty r = false := by unfold goodB; simp [hr]
        rw [e]
        clear e
        go_enter Tryd.func57, Tryd.ntmps57
        go_wp2_with fail
        refine (bits_c _).mono ?_
        rintro e w1 ⟨rfl, rfl⟩
        go_wp2_with fail
        go_ret
        exact ⟨by first | rfl | (simp; done) | (simp; omega), bW⟩
    · skip
      have e : goodB 2 n t r = false := by unfold goodB; simp [hz]
      rw [e]
      clear e
      go_enter Tryd.func57, Tryd.ntmps57
      go_wp2_with fail
      refine (bits_c _).mono ?_
      rintro e w1 ⟨rfl, rfl⟩
      go_wp2_with fail
      go_ret
      exact ⟨by first | rfl | (simp; done) | (simp; omega), bW⟩
  have k2 : (k == 2) = false := beq_eq_false_iff_ne.2 h2
  by_cases h3 : k = 3
  · subst h3
    by_cases n0 : n = 0
    · subst n0
      rcases hr with rfl | ⟨hr, hrb⟩
      · by_cases t0 : t.size ≤ 256
        · have t0I : (t.size : Int) ≤ 256 := by omega
          have e : goodB 3 0 t 0 = true := by unfold goodB; simp; omega
          rw [e]
          clear e ht
          go_enter Tryd.func57, Tryd.ntmps57
          go_wp2_with fail
          refine (bits_c _).mono ?_
          rintro e w1 ⟨rfl, rfl⟩
          go_wp2_with fail
          go_ret
          exact ⟨by first | rfl | (simp; done) | (simp; omega), bW⟩
        · have t0I : (256 : Int) < t.size := by omega
          have e : goodB 3 0 t 0 = false := by unfold goodB; simp; omega
          rw [e]
          clear e ht t0
          go_enter Tryd.func57, Tryd.ntmps57
          go_wp2_with fail
          refine (bits_c _).mono ?_
          rintro e w1 ⟨rfl, rfl⟩
          go_wp2_with fail
          go_ret
          exact ⟨by first | rfl | (simp; done) | (simp; omega), bW⟩
      · skip
        have e : goodB 3 0 t r = false := by unfold goodB; simp [hr]
        rw [e]
        clear e ht
        go_enter Tryd.func57, Tryd.ntmps57
        go_wp2_with fail
        refine (bits_c _).mono ?_
        rintro e w1 ⟨rfl, rfl⟩
        go_wp2_with fail
        go_ret
        exact ⟨by first | rfl | (simp; done) | (simp; omega), bW⟩
    · have n0b : (n == 0) = false := beq_eq_false_iff_ne.2 n0
      have e : goodB 3 n t r = false := by unfold goodB; simp [n0]
      rw [e]
      clear e ht
      go_enter Tryd.func57, Tryd.ntmps57
      go_wp2_with fail
      refine (bits_c _).mono ?_
      rintro e w1 ⟨rfl, rfl⟩
      go_wp2_with fail
      go_ret
      exact ⟨by first | rfl | (simp; done) | (simp; omega), bW⟩
  have k3 : (k == 3) = false := beq_eq_false_iff_ne.2 h3
  by_cases h4 : k = 4
  · subst h4
    by_cases n0 : n = 0
    · subst n0
      rcases ht with ⟨rfl, hz⟩ | ⟨hE, hz⟩
      · by_cases hc : r = canonR r
        · have hd : decide (r = canonR r) = true := decide_eq_true hc
          have e : goodB 4 0 ByteArray.empty r = true := by unfold goodB; simp; exact hc
          rw [e]
          clear e hc hr
          go_enter Tryd.func57, Tryd.ntmps57
          go_wp2_with fail
          refine (bits_c _).mono ?_
          rintro e w1 ⟨rfl, rfl⟩
          go_wp2_with fail
          go_quiet ((first | (go_at_call 22; with_reducible exact Calls.quiet_of_same (rawSame_q' _ _)) | (go_at_call 70; with_reducible exact Calls.quiet_of_same (refCanon_q _ HR.out))))
          go_wp2_with fail
          go_ret
          exact ⟨by first | rfl | (simp; done) | (simp; omega), bW.trans ((below_drewN _ _).mono bW.size)⟩
        · have hd : decide (r = canonR r) = false := decide_eq_false hc
          have e : goodB 4 0 ByteArray.empty r = false := by unfold goodB; simp; exact hc
          rw [e]
          clear e hc hr
          go_enter Tryd.func57, Tryd.ntmps57
          go_wp2_with fail
          refine (bits_c _).mono ?_
          rintro e w1 ⟨rfl, rfl⟩
          go_wp2_with fail
          go_quiet ((first | (go_at_call 22; with_reducible exact Calls.quiet_of_same (rawSame_q' _ _)) | (go_at_call 70; with_reducible exact Calls.quiet_of_same (refCanon_q _ HR.out))))
          go_wp2_with fail
          go_ret
          exact ⟨by first | rfl | (simp; done) | (simp; omega), bW.trans ((below_drewN _ _).mono bW.size)⟩
      · skip
        have e : goodB 4 0 t r = false := by unfold goodB; simp [hz]
        rw [e]
        clear e hr
        go_enter Tryd.func57, Tryd.ntmps57
        go_wp2_with fail
        refine (bits_c _).mono ?_
        rintro e w1 ⟨rfl, rfl⟩
        go_wp2_with fail
        go_quiet ((first | (go_at_call 22; with_reducible exact Calls.quiet_of_same (rawSame_q' _ _)) | (go_at_call 70; with_reducible exact Calls.quiet_of_same (refCanon_q _ HR.out))))
        go_wp2_with fail
        go_ret
        exact ⟨by first | rfl | (simp; done) | (simp; omega), bW.trans ((below_drewN _ _).mono bW.size)⟩
    · have n0b : (n == 0) = false := beq_eq_false_iff_ne.2 n0
      have e : goodB 4 n t r = false := by unfold goodB; simp [n0]
      rw [e]
      clear e ht hr
      go_enter Tryd.func57, Tryd.ntmps57
      go_wp2_with fail
      refine (bits_c _).mono ?_
      rintro e w1 ⟨rfl, rfl⟩
      go_wp2_with fail
      go_quiet ((first | (go_at_call 22; with_reducible exact Calls.quiet_of_same (rawSame_q' _ _)) | (go_at_call 70; with_reducible exact Calls.quiet_of_same (refCanon_q _ HR.out))))
      go_wp2_with fail
      go_ret
      exact ⟨by first | rfl | (simp; done) | (simp; omega), bW.trans ((below_drewN _ _).mono bW.size)⟩
  have k4 : (k == 4) = false := beq_eq_false_iff_ne.2 h4
  have e : goodB k n t r = false := by unfold goodB; simp [h1, h2, h3, h4]
  rw [e]
  clear e ht hr
  go_enter Tryd.func57, Tryd.ntmps57
  go_wp2_with fail
  refine (bits_c _).mono ?_
  rintro e w1 ⟨rfl, rfl⟩
  go_wp2_with fail
  go_quiet ((first | (go_at_call 22; with_reducible exact Calls.quiet_of_same (rawSame_q' _ _)) | (go_at_call 70; with_reducible exact Calls.quiet_of_same (refCanon_q _ HR.out))))
  go_wp2_with fail
  go_ret
  exact ⟨by first | rfl | (simp; done) | (simp; omega), bW.trans ((below_drewN _ _).mono bW.size)⟩
end Go.Proofs.YteigbejidfkhpaaDoor

/- The reference's Valid. -/
namespace Go.Proofs.YteigbejidfkhpaaDoor
open Go Go.RowKit
set_option linter.unusedSimpArgs false
set_option linter.unusedVariables false

theorem less_trans {a b c : ByteArray} (h1 : Go.Op.bytesLess a.toList b.toList = true) (h2 : Go.Op.bytesLess b.toList c.toList = true) : Go.Op.bytesLess a.toList c.toList = true := by
  rw [less_iff] at h1 h2 ⊢
  exact List.lt_trans h1 h2
/-- The names ahead of the last are less than it. -/
def Asc (ps : List Prp) (k : Nat) : Prop := ∀ j x q, j + 1 < k → ps[j]? = some x → pvN ps k = some q → Go.Op.bytesLess x.nm.toList q.toList = true
def LessAll (ps : List Prp) (m : Nat) (p : Prp) : Prop := ∀ j x, j < m → ps[j]? = some x → Go.Op.bytesLess x.nm.toList p.nm.toList = true
theorem valid_stop {ps : List Prp} {k m : Nat} {p x : Prp} (hI : validL none ps = validL (pvN ps k) (ps.drop k)) (hQ : Asc ps k) (hd : ps.drop k = p :: ps.drop (k + 1)) (hk : k < ps.length) (hm : m < k) (hx : ps[m]? = some x) (hno : Go.Op.bytesLess x.nm.toList p.nm.toList = false) : validB ps = false := by
  obtain ⟨j, rfl⟩ : ∃ j, k = j + 1 := ⟨k - 1, by omega⟩
  have hq : ps[j]? = some ps[j] := List.getElem?_eq_getElem (by omega)
  have hpv := pvN_succ hq
  have hn : Go.Op.bytesLess ps[j].nm.toList p.nm.toList = false := by
    by_cases e : m = j
    · subst e
      rw [hq] at hx
      injection hx with hx
      rw [hx]
      exact hno
    · have h1 := hQ m x _ (by omega) hx hpv
      cases h2 : Go.Op.bytesLess ps[j].nm.toList p.nm.toList with
      | false => rfl
      | true => rw [less_trans h1 h2] at hno; cases hno
  unfold validB
  rw [hI, hd, hpv]
  simp [validL, hn]
theorem valid_on {ps : List Prp} {k : Nat} {p : Prp} (hI : validL none ps = validL (pvN ps k) (ps.drop k)) (hd : ps.drop k = p :: ps.drop (k + 1)) (hp : ps[k]? = some p) (hnm : nameB p.nm = true) (hgd : p.good = true) (hL : LessAll ps k p) : validL none ps = validL (pvN ps (k + 1)) (ps.drop (k + 1)) := by
  rw [hI, hd, pvN_succ hp]
  cases k with
  | zero =>
    show validL none (p :: _) = _
    simp [validL, hnm, hgd]
  | succ j =>
    have hj : j < ps.length := by have := (List.getElem?_eq_some_iff.1 hp).1; omega
    have hq : ps[j]? = some ps[j] := List.getElem?_eq_getElem hj
    rw [pvN_succ hq]
    have := hL j _ (by omega) hq
    simp [validL, hnm, hgd, this]
theorem asc_succ {ps : List Prp} {k : Nat} {p : Prp} (hp : ps[k]? = some p) (hL : LessAll ps k p) : Asc ps (k + 1) := by
  intro j x q hj hx hq
  rw [pvN_succ hp] at hq
  injection hq with hq
  subst hq
  exact hL j x (by omega) hx
theorem less_succ {ps : List Prp} {m : Nat} {p x : Prp} (hL : LessAll ps m p) (hx : ps[m]? = some x) (h : Go.Op.bytesLess x.nm.toList p.nm.toList = true) : LessAll ps (m + 1) p := by
  intro j y hj hy
  by_cases e : j = m
  · subst e
    rw [hx] at hy
    injection hy with hy
    subst hy
    exact h
  · exact hL j y (by omega) hy

set_option maxRecDepth 100000 in
set_option maxHeartbeats 2000000 in
theorem refValid_c {w : World} {v : Value} {ps : List Prp} (hp : RPr w v ps) (hsz : ∀ p ∈ ps, p.nm.size ≤ 140737488351232 ∧ p.r < 18446744073709551616) :
    Calls Tryd.prog 33 #[v] w fun e w' => e = .returned (.bool (validB ps)) ∧ Below w.heap.size w w' := by
  have h63 : ps.length ≤ 9223372036854775807 := by obtain ⟨_, _, _, h1, h2, _⟩ := id hp; omega
  obtain ⟨A, c, rfl, hnc, hcell⟩ := props_at hp
  have HC := Lib.hid hcell
  have HS := Lib.hid hsz
  have H63 := Lib.hid h63
  clear h63
  have qs := store_float (P := Tryd.prog)
  obtain ⟨vb, hvb⟩ : ∃ vb, vb = validB ps := ⟨_, rfl⟩
  have HV := Lib.hid hvb
  rw [← hvb]
  clear hp hcell hsz hvb
  go_enter Tryd.func33, Tryd.ntmps33
  go_wp2_with fail
  go_loopw [8] (fun i wr => ∃ k : Nat, k ≤ ps.length ∧ k ≤ 16 ∧ i = .int .i64 k ∧ Hid (validL none ps = validL (pvN ps k) (ps.drop k)) ∧ Hid (Asc ps k) ∧ Below w.heap.size w wr) (fun i _ => ps.length - (intOf i).toNat)
  case atStart => exact ⟨0, Nat.zero_le _, Nat.zero_le _, rfl, Lib.hid rfl, Lib.hid (fun j x q h => by omega), Below.refl _ _⟩
  case round =>
    obtain ⟨k, hk, hk16, rfl, HI, HQ, b2⟩ := hrel
    by_cases hlt : k < ps.length
    · obtain ⟨p, hp⟩ : ∃ p, ps[k]? = some p := ⟨_, List.getElem?_eq_getElem hlt⟩
      obtain ⟨a, rfl, q0, q1, q2, q3, q4⟩ := HC.out k p hp
      have hns := HS.out p (List.mem_of_getElem? hp)
      have hdk : ps.drop k = p :: ps.drop (k + 1) := by rw [List.drop_eq_getElem_cons hlt]; congr 1; rw [List.getElem?_eq_getElem hlt] at hp; injection hp
      have p0 := cell_below b2 (World.block_lt_of_cell? w _ q0) q0
      have p1 := cell_below b2 (World.block_lt_of_cell? w _ q1) q1
      have p2 := cell_below b2 (World.block_lt_of_cell? w _ q2) q2
      have p3 := cell_below b2 (World.block_lt_of_cell? w _ q3) q3
      have p4 := cell_below b2 (World.block_lt_of_cell? w _ q4) q4
      have HDK := Lib.hid hdk
      have HP := Lib.hid hp
      have HN := Lib.hid hns
      have HLT := Lib.hid hlt
      have b3 := b2.alloc b2.size (.cells #[.string p.nm, .int .i64 p.k, .int .i64 p.n, .string p.t, .float .f64 p.r] 48)
      obtain ⟨W, hW⟩ : ∃ W, W = wr.alloc (.cells #[.string p.nm, .int .i64 p.k, .int .i64 p.n, .string p.t, .float .f64 p.r] 48) := ⟨_, rfl⟩
      have z0 : W.cell? ⟨wr.heap.size, 0, none⟩ = some (.string p.nm) := by rw [hW]; exact new_cell 0 _ rfl
      have z1 : W.cell? ⟨wr.heap.size, 1, none⟩ = some (.int .i64 p.k) := by rw [hW]; exact new_cell 1 _ rfl
      have z2 : W.cell? ⟨wr.heap.size, 2, none⟩ = some (.int .i64 p.n) := by rw [hW]; exact new_cell 2 _ rfl
      have z3 : W.cell? ⟨wr.heap.size, 3, none⟩ = some (.string p.t) := by rw [hW]; exact new_cell 3 _ rfl
      have z4 : W.cell? ⟨wr.heap.size, 4, none⟩ = some (.float .f64 p.r) := by rw [hW]; exact new_cell 4 _ rfl
      have zb : wr.heap.size < W.heap.size := by rw [hW]; show _ < (Array.push _ _).size; simp
      rw [← hW] at b3
      have HWW := Lib.hid hW
      have HZB := Lib.hid zb
      have hkI : (k : Int) ≤ 16 := by omega
      clear hp hdk q0 q1 q2 q3 q4 hW zb hns hlt
      go_upto_region 4 with fail
      rw [← HWW.out]
      have HNM := Lib.hid (refName_c (w := W) p.nm HN.out.1)
      cases hnm : nameB p.nm with
      | false =>
        have hvf : vb = false := by rw [HV.out]; unfold validB; rw [HI.out, HDK.out]; cases pvN ps k <;> (simp [validL, hnm])
        rw [hnm] at HNM
        subst hvf
        go_wp2_with fail
        refine (HNM.out).mono ?_
        rintro e w1 ⟨rfl, rfl⟩
        go_wp2_with fail
        go_ret
        exact ⟨rfl, b3⟩
      | true =>
        rw [hnm] at HNM
        have HGD := Lib.hid (refGood_c (w := W) p.k p.n p.t p.r HN.out.2)
        cases hgd : goodB p.k p.n p.t p.r with
        | false =>
          have hgd' : p.good = false := hgd
          have hvf : vb = false := by rw [HV.out]; unfold validB; rw [HI.out, HDK.out]; cases pvN ps k <;> (simp [validL, hnm, hgd'])
          rw [hgd] at HGD
          subst hvf
          clear hgd hgd' hnm
          go_wp2_with fail
          refine (HNM.out).mono ?_
          rintro e w1 ⟨rfl, rfl⟩
          go_wp2_with fail
          refine (HGD.out).mono ?_
          rintro e w1 ⟨rfl, b4⟩
          go_wp2_with fail
          go_ret
          exact ⟨rfl, b3.trans (b4.mono b3.size)⟩
        | true =>
          rw [hgd] at HGD
          have hgd' : p.good = true := hgd
          have HNX : Hid (LessAll ps k p → validL none ps = validL (pvN ps (k + 1)) (ps.drop (k + 1))) := Lib.hid (fun hL => valid_on HI.out HDK.out HP.out hnm hgd' hL)
          clear hgd hgd' hnm
          go_wp2_with fail
          refine (HNM.out).mono ?_
          rintro e w1 ⟨rfl, rfl⟩
          go_wp2_with fail
          refine (HGD.out).mono ?_
          rintro e w1 ⟨rfl, b4⟩
          have B4 := b3.trans (b4.mono b3.size)
          have y0 := cell_below b4 (World.block_lt_of_cell? W _ z0) z0
          clear z0 z1 z2 z3 z4 p0 p1 p2 p3 p4 HNM HGD b3 b4
          go_wp2_with fail
          obtain ⟨wL, hwL⟩ : ∃ wL, wL = w1 := ⟨_, rfl⟩
          have HWL := Lib.hid hwL
          clear hwL
          go_loopw [5] (fun i wx => ∃ m : Nat, m ≤ k ∧ i = .int .i64 m ∧ Hid (LessAll ps m p) ∧ Below wL.heap.size wL wx) (fun i _ => k - (intOf i).toNat)
          case atStart => exact ⟨0, Nat.zero_le _, rfl, Lib.hid (fun j x h => by omega), by rw [HWL.out]; exact Below.refl _ _⟩
          case round =>
            obtain ⟨m, hm, rfl, HL, b5⟩ := hrel
            have b5' : Below w1.heap.size w1 wr := by have h := b5; rw [HWL.out] at h; exact h
            have B5 := B4.trans (b5'.mono B4.size)
            by_cases hlt2 : m < k
            · have hml : m < ps.length := by have := HLT.out; omega
              obtain ⟨x, hx⟩ : ∃ x, ps[m]? = some x := ⟨_, List.getElem?_eq_getElem hml⟩
              obtain ⟨a', ha', g0, _, _, _, _⟩ := HC.out m x hx
              injection ha' with ha'
              subst ha'
              have g1 := cell_below B5 (World.block_lt_of_cell? w _ g0) g0
              have y1 := cell_below b5' (World.block_lt_of_cell? w1 _ y0) y0
              have hmI : (m : Int) < k := by omega
              have hmL : (m : Int) < ps.length := by omega
              have hmK : (m : Int) ≤ 16 := by omega
              have HX := Lib.hid hx
              have HLT2 := Lib.hid hlt2
              clear hx g0 hml hlt2
              cases hls : Go.Op.bytesLess x.nm.toList p.nm.toList with
              | false =>
                have hvf : vb = false := by rw [HV.out]; exact valid_stop HI.out HQ.out HDK.out HLT.out HLT2.out HX.out hls
                subst hvf
                go_wp2_with fail
                go_quiet (fail)
                go_wp2
                go_ret
                exact ⟨rfl, B5.trans ((below_drewN _ _).mono B5.size)⟩
              | true =>
                go_wp2_with fail
                go_quiet (fail)
                go_wp2
                go_roundw
                case rel => exact ⟨m + 1, by have := HLT2.out; omega, by go_num, Lib.hid (less_succ HL.out HX.out hls), b5.trans ((below_drewN _ _).mono b5.size)⟩
                case measure => have := HLT2.out; simp [intOf]; omega
            · obtain rfl : m = k := by omega
              by_cases h16 : m = 16
              · have hvf : vb = false := by
                  rw [HV.out]
                  unfold validB
                  rw [decide_eq_false (by have := HLT.out; omega), Bool.and_false]
                subst hvf h16
                clear hlt2
                go_wp2_with fail
                go_ret
                exact ⟨rfl, B5⟩
              · have h16' : (m : Int) < 16 := by omega
                have H16 := Lib.hid (show m + 1 ≤ 16 by omega)
                have hwk : wrap64 ((m : Int) + 1) = (m : Int) + 1 := by unfold wrap64; omega
                clear hlt2 h16
                go_wp2_with fail
                go_roundw
                case rel => exact ⟨m + 1, HLT.out, H16.out, by go_num, Lib.hid (HNX.out HL.out), Lib.hid (asc_succ HP.out HL.out), B5⟩
                case measure => have := HLT.out; simp [intOf]; omega
    · have hk2 : k = ps.length := by omega
      subst hk2
      have hvt : vb = true := by rw [HV.out]; unfold validB; rw [HI.out, List.drop_length, decide_eq_true hk16]; cases pvN ps ps.length <;> rfl
      subst hvt
      clear hlt
      go_wp2_with fail
      go_ret
      exact ⟨by first | rfl | (simp; omega), b2⟩
end Go.Proofs.YteigbejidfkhpaaDoor

/- Layer 15: the reader's tables. -/
namespace Go.Proofs.YteigbejidfkhpaaDoor
open Go Go.RowKit
set_option linter.unusedSimpArgs false
set_option linter.unusedVariables false

/-- What a table's reading leaves. -/
def TabPost (w : World) (g : Nat) (o : Option (List Prp × ByteArray)) (e : Ending) (w' : World) : Prop :=
  w.grownBy w' (some g) ∧ match o with
    | some (ps, r) => ∃ v, e = .returned v ∧ OwnP w' w.heap.size v ps ∧ RD w' g r
    | none => e = StopE
theorem tab_none {w w' : World} {g : Nat} {o : Option (List Prp × ByteArray)} {e : Ending} (ho : o = none) (hg : w.grownBy w' (some g)) (he : e = StopE) : TabPost w g o e w' := by
  subst ho
  exact ⟨hg, he⟩
theorem tab_some {w w' : World} {g : Nat} {o : Option (List Prp × ByteArray)} {ps : List Prp} {r : ByteArray} {v : Value} (ho : o = some (ps, r)) (hg : w.grownBy w' (some g)) (hv : OwnP w' w.heap.size v ps) (hr : RD w' g r) : TabPost w g o (.returned v) w' := by
  subst ho
  exact ⟨hg, v, rfl, hv, hr⟩
structure TI (w1 wr : World) (g2 : Nat) (x : ByteArray) (v : Value) (acc : List Prp) (y : ByteArray) : Prop where
  rd : RD wr g2 y
  own : wr.ownsRow w1.heap.size 48 5 v acc.length (acc.flatMap Prp.cells)
  bel : Below w1.heap.size w1 wr
  tot : itemsP x.size x = (itemsP y.size y).map (acc ++ ·)
  len : acc.length + y.size ≤ x.size
  nms : ∀ p ∈ acc, p.nm.size ≤ 255
theorem below_grown {B : Nat} {a w w' : World} {g : Nat} (h : Below B a w) (hg : w.grownBy w' (some g)) (hB : B ≤ g) (hs : B ≤ w.heap.size) : Below B a w' :=
  h.trans ⟨hg.os, hg.tape, hg.output, hg.size, fun k hk => hg.block k (by omega) (fun e => by injection e with e; omega)⟩
theorem items_stop {x y : ByteArray} {acc : List Prp} (h : itemsP x.size x = (itemsP y.size y).map (acc ++ ·)) (hy : y.size ≠ 0) (hi : itemP y = none) : itemsP x.size x = none := by
  rw [h, itemsP_step hy, hi]
  rfl
theorem items_next {x y y2 : ByteArray} {acc : List Prp} {p : Prp} (h : itemsP x.size x = (itemsP y.size y).map (acc ++ ·)) (hy : y.size ≠ 0) (hi : itemP y = some (p, y2)) : itemsP x.size x = (itemsP y2.size y2).map ((acc ++ [p]) ++ ·) := by
  rw [h, itemsP_step hy, hi, Option.bind_some]
  cases itemsP y2.size y2 <;> simp

theorem own_set {w : World} {B e s n : Nat} {v : Value} {xs : List Value} (h : w.ownsRow B e s v n xs) {b : Nat} (hb : v.ownBlock ≠ some b) (j : Nat) (u : Value) : (w.setCell ⟨b, j, none⟩ u).ownsRow B e s v n xs :=
  own_other h (grownBy_set w b j u) (fun k hk e' => hb (by rw [hk]; injection e' with e'; rw [e']))
theorem own_rd {w w' : World} {B n g : Nat} {v : Value} {xs : List Value} {y : ByteArray} (h : w.ownsRow B 48 5 v n xs) (hr : RD w g y) (hg : w.grownBy w' (some g)) : w'.ownsRow B 48 5 v n xs :=
  own_other h hg (fun k hk e' => own_ne h hr (by decide) (by rw [hk]; injection e' with e'; rw [e']))
theorem rd_own {w w' : World} {B n g : Nat} {v : Value} {xs : List Value} {y : ByteArray} (hr : RD w g y) (h : w.ownsRow B 48 5 v n xs) (hg : w.grownBy w' v.ownBlock) : RD w' g y := by
  unfold RD
  rw [hg.block g (rd_lt hr) (fun e => own_ne h hr (by decide) e.symm)]
  exact hr
theorem own_ownP {w : World} {B : Nat} {v : Value} {ps : List Prp} (h : w.ownsRow B 48 5 v ps.length (ps.flatMap Prp.cells)) : OwnP w B v ps := by
  rcases id h.2 with ⟨rfl, h0⟩ | ⟨g, cap, cur, rfl, _⟩
  · exact .inl ⟨rfl, List.eq_nil_of_length_eq_zero h0⟩
  · obtain ⟨a, b, c, d, e, f⟩ := own_holdsK h
    exact .inr ⟨g, cap, rfl, b, c, e, f, a⟩
theorem ownP_lower {w : World} {B B' : Nat} {v : Value} {ps : List Prp} (h : OwnP w B v ps) (hb : B' ≤ B) : OwnP w B' v ps := by
  rcases h with h | ⟨g, cap, a, b, r⟩
  · exact .inl h
  · exact .inr ⟨g, cap, a, by omega, r⟩
theorem tabP_some {acc qs : List Prp} (hp : qs.Perm acc) (hx : acc.length < 20 → qs = sortP acc) (hv : validB qs = true) : tabP acc = some qs := by
  have hl := hp.length_eq
  have h16 := valid_len hv
  have e := hx (by omega)
  unfold tabP
  rw [if_pos ⟨by omega, by rw [← e]; exact hv⟩, e]
theorem tabP_none {acc qs : List Prp} (hp : qs.Perm acc) (hx : acc.length < 20 → qs = sortP acc) (hv : validB qs = false) : tabP acc = none := by
  unfold tabP
  refine if_neg fun ⟨h1, h2⟩ => ?_
  rw [← hx h1, hv] at h2
  cases h2
theorem below_set {B : Nat} {a w : World} (h : Below B a w) {n : Nat} (hn : B ≤ n) (j : Nat) (u : Value) : Below B a (w.setCell ⟨n, j, none⟩ u) := h.setCell hn u
theorem pb_set {w : World} {b : Nat} {nm t : ByteArray} {k n : Int} {r : Nat} {c1 c2 c3 c4 : Value} (h : w.heap[b]? = some (.cells #[.string nm, c1, c2, c3, c4] 48 (0, 0))) :
    PB ((((w.setCell ⟨b, 1, none⟩ (.int .i64 k)).setCell ⟨b, 2, none⟩ (.int .i64 n)).setCell ⟨b, 3, none⟩ (.string t)).setCell ⟨b, 4, none⟩ (.float .f64 r)) b ⟨nm, k, n, t, r⟩ := by
  unfold PB
  simp [World.setCell, Array.getElem?_modify, h]
theorem prop_new (w : World) (p : Prp) : RC (w.alloc (.cells #[.string p.nm, .int .i64 p.k, .int .i64 p.n, .string p.t, .float .f64 p.r] 48)) (.slice (some ⟨w.heap.size, 0, none⟩) 1 1) 1 5 (Prp.cells p) :=
  rc_new w 48 1 5 (Prp.cells p) rfl (by omega)

set_option maxRecDepth 1000000 in
set_option maxHeartbeats 8000000 in
theorem rdTable_c {w : World} {g : Nat} {s : ByteArray} (h : RD w g s) (hs : s.size ≤ 1073741824) :
    Calls Tryd.prog 38 #[.pointer (some ⟨g, 0, none⟩)] w (TabPost w g (tableP s)) := by
  have hL := rdLong_c h (by omega)
  have qs := store_float (P := Tryd.prog)
  have HGL := Lib.hid (rd_lt h)
  cases ho : longP s with
  | none =>
    have HL := Lib.hid (pr_no hL ho)
    have HT := Lib.hid (show tableP s = none by unfold tableP; rw [ho]; rfl)
    clear ho hL h
    go_enter Tryd.func38, Tryd.ntmps38
    go_wp2_with fail
    refine (HL.out).mono ?_
    rintro e w1 ⟨rfl, g1⟩
    go_wp2_with fail
    exact ⟨rfl, tab_none HT.out g1 rfl⟩
  | some p =>
    obtain ⟨x, r⟩ := p
    have HL := Lib.hid (pr_yes hL ho)
    have hxs := longP_size ho
    have HX := Lib.hid (show x.size ≤ 1073741824 by omega)
    have HT := Lib.hid (show tableP s = ((itemsP x.size x).bind tabP).map fun l => (l, r) by unfold tableP; rw [ho]; rfl)
    clear ho hL h hxs hs
    go_enter Tryd.func38, Tryd.ntmps38
    go_wp2_with fail
    refine (HL.out).mono ?_
    rintro e w1 ⟨rfl, r1, g1⟩
    have R1 := Lib.hid r1
    have G1 := Lib.hid g1
    clear r1 g1
    go_wp2_with fail
    go_loopg [4] x.size (fun kx v wr => ∃ (acc : List Prp) (y : ByteArray), y.size ≤ kx ∧ Hid (TI w1 wr w1.heap.size x v acc y))
    case atStart =>
      exact ⟨[], x, Nat.le_refl _, Lib.hid ⟨heap_alloc_new w1 _, (own_nil w1 w1.heap.size 48 5).alloc _, (Below.refl _ _).alloc (Nat.le_refl _) _, by simp, by simp, by simp⟩⟩
    case round =>
      obtain ⟨acc, y, hyk, HI⟩ := hrel
      obtain ⟨c0, f0⟩ := rd_facts HI.out.rd
      by_cases hy : y.size = 0
      · have htot := Lib.hid (show itemsP x.size x = some acc by rw [HI.out.tot, itemsP_nil hy]; simp)
        have hal := Lib.hid (show acc.length < 1152921504606846976 by have := HX.out; have := HI.out.len; omega)
        have HSO := Lib.hid (sortOwn_c HI.out.bel.size (own_ownP HI.out.own) hal.out)
        obtain rfl := ba_nil hy
        clear hy hyk
        go_wp2_with fail
        refine (HSO.out).mono ?_
        rintro e w2 ⟨rfl, qs', ho', hp', hx', hb'⟩
        have OW := Lib.hid ho'
        have PE := Lib.hid hp'
        have HXQ := Lib.hid hx'
        have BW := Lib.hid (HI.out.bel.trans hb')
        have HV := valid_c (ownP_rpr ho') (fun p hp => by have := HI.out.nms p (hp'.mem_iff.1 hp); omega)
        clear ho' hp' hx' hb'
        cases hv : validB qs' with
        | true =>
          rw [hv] at HV
          have HV' := Lib.hid HV
          have HVB := Lib.hid hv
          clear HV hv
          go_wp2_with fail
          refine (HV'.out).mono ?_
          rintro e w3 ⟨rfl, b3⟩
          go_wp2_with (go_at_call 49; refine unless_yes.mono ?_; rintro e w4 ⟨rfl, rfl⟩)
          go_ret
          have B3 := BW.out.trans (b3.mono BW.out.size)
          exact tab_some (by rw [HT.out, htot.out, Option.bind_some, tabP_some PE.out HXQ.out HVB.out]; rfl) (G1.out.trans (grownBy_below B3 _)) (ownP_lower (ownP_below OW.out b3) G1.out.size) (rd_below R1.out B3)
        | false =>
          rw [hv] at HV
          have HV' := Lib.hid HV
          have HVB := Lib.hid hv
          clear HV hv
          go_wp2_with fail
          refine (HV'.out).mono ?_
          rintro e w3 ⟨rfl, b3⟩
          go_wp2_with (go_at_call 49; refine unless_no.mono ?_; rintro e w4 ⟨rfl, rfl⟩)
          have B3 := BW.out.trans (b3.mono BW.out.size)
          exact ⟨rfl, tab_none (by rw [HT.out, htot.out, Option.bind_some, tabP_none PE.out HXQ.out HVB.out]; rfl) (G1.out.trans (grownBy_below B3 _)) rfl⟩
      · have hE := ne_nil y (by omega)
        have HY := Lib.hid hy
        have hS := rdShort_c HI.out.rd
        clear hy
        cases ho : shortP y with
        | none =>
          have HS := Lib.hid (pr_no hS ho)
          have HN := Lib.hid (show itemP y = none by unfold itemP; rw [ho]; rfl)
          clear hS ho
          go_wp2_with fail
          refine (HS.out).mono ?_
          rintro e w2 ⟨rfl, g2⟩
          go_wp2_with fail
          exact ⟨rfl, tab_none (by rw [HT.out, items_stop HI.out.tot HY.out HN.out]; rfl) (G1.out.trans (grownBy_below (below_grown HI.out.bel g2 (Nat.le_refl _) HI.out.bel.size) _)) rfl⟩
        | some q =>
          obtain ⟨nm, y1⟩ := q
          have HS := Lib.hid (pr_yes hS ho)
          have HO := Lib.hid ho
          have HY1 := Lib.hid (shortP_size ho)
          clear hS ho
          go_wp2_with fail
          refine (HS.out).mono ?_
          rintro e w2 ⟨rfl, r2, g2⟩
          have R2 := Lib.hid r2
          have G2 := Lib.hid g2
          clear r2 g2
          have hr2 : RD (w2.alloc (.cells #[.string nm, .int .i64 0, .int .i64 0, .string ⟨#[]⟩, .float .f64 0] 48)) w1.heap.size y1 := rd_below R2.out (below_al1 _ _)
          have hV := rdValue_c hr2 (by have := HX.out; have := HI.out.len; have := HY1.out.2; omega)
          have bal := Lib.hid (below_al1 w2 (.cells #[.string nm, .int .i64 0, .int .i64 0, .string ⟨#[]⟩, .float .f64 0] 48))
          have bI2 := Lib.hid (below_grown HI.out.bel G2.out (Nat.le_refl _) HI.out.bel.size)
          clear hr2
          cases ho2 : valP y1 with
          | none =>
            have HV := Lib.hid (pr_no hV ho2)
            have HN := Lib.hid (show itemP y = none by unfold itemP; rw [HO.out, Option.bind_some]; dsimp only; rw [ho2]; rfl)
            clear hV ho2
            go_wp2_with fail
            refine (HV.out).mono ?_
            rintro e w3 ⟨rfl, g3⟩
            go_wp2_with fail
            exact ⟨rfl, tab_none (by rw [HT.out, items_stop HI.out.tot HY.out HN.out]; rfl) (G1.out.trans (grownBy_below (below_grown (bI2.out.trans (bal.out.mono bI2.out.size)) g3 (Nat.le_refl _) (Nat.le_trans bI2.out.size bal.out.size)) _)) rfl⟩
          | some q2 =>
            obtain ⟨vv, y2⟩ := q2
            have HV := Lib.hid (pr_yes hV ho2)
            have HN := Lib.hid (show itemP y = some (⟨nm, vv.k, vv.n, vv.t, vv.r⟩, y2) by unfold itemP; rw [HO.out, Option.bind_some]; dsimp only; rw [ho2]; rfl)
            clear hV ho2
            unfold Vl.val at HV
            go_wp2_with fail
            refine (HV.out).mono ?_
            rintro e w3 ⟨rfl, r3, g3⟩
            have hpb : w3.heap[w2.heap.size]? = some (.cells #[.string nm, .int .i64 0, .int .i64 0, .string ⟨#[]⟩, .float .f64 0] 48 (0, 0)) := by
              rw [g3.block w2.heap.size (by simp) (fun e => by injection e with e; have := rd_lt R2.out; omega)]
              exact heap_alloc_new w2 _
            have q0 : w3.cell? ⟨w2.heap.size, 0, none⟩ = some (.string nm) := by simp [World.cell?, hpb]
            have q1 : w3.cell? ⟨w2.heap.size, 1, none⟩ = some (.int .i64 0) := by simp [World.cell?, hpb]
            have q2 : w3.cell? ⟨w2.heap.size, 2, none⟩ = some (.int .i64 0) := by simp [World.cell?, hpb]
            have q3 : w3.cell? ⟨w2.heap.size, 3, none⟩ = some (.string ⟨#[]⟩) := by simp [World.cell?, hpb]
            have q4 : w3.cell? ⟨w2.heap.size, 4, none⟩ = some (.float .f64 0) := by simp [World.cell?, hpb]
            have f0' : ∀ j, w3.frozen? ⟨w2.heap.size, j, none⟩ = false := fun j => by simp [World.frozen?, hpb]
            have f1 := f0' 1
            have f2 := f0' 2
            have f3 := f0' 3
            have f4 := f0' 4
            have HPB := Lib.hid hpb
            have R3 := Lib.hid r3
            have G3 := Lib.hid g3
            clear hpb f0' r3 g3
            go_upto_region 6 with fail
            obtain ⟨W, hW⟩ : ∃ W, W = ((((w3.setCell ⟨w2.heap.size, 1, none⟩ (.int .i64 vv.k)).setCell ⟨w2.heap.size, 2, none⟩ (.int .i64 vv.n)).setCell ⟨w2.heap.size, 3, none⟩ (.string vv.t)).setCell ⟨w2.heap.size, 4, none⟩ (.float .f64 vv.r)) := ⟨_, rfl⟩
            have o2 := own_rd HI.out.own HI.out.rd G2.out
            have hne : u4.ownBlock ≠ some w2.heap.size := fun e => by have := own_lt o2 e; omega
            have o3 := own_rd (o2.alloc (.cells #[.string nm, .int .i64 0, .int .i64 0, .string ⟨#[]⟩, .float .f64 0] 48)) (rd_below R2.out bal.out) G3.out
            have hbm : w1.heap.size ≤ w2.heap.size := bI2.out.size
            have hgp : w1.heap.size ≠ w2.heap.size := by have := rd_lt R2.out; omega
            have bI3 := below_grown (bI2.out.trans (bal.out.mono bI2.out.size)) G3.out (Nat.le_refl _) (Nat.le_trans bI2.out.size bal.out.size)
            have OW := Lib.hid (show W.ownsRow w1.heap.size 48 5 u4 acc.length (acc.flatMap Prp.cells) by rw [hW]; exact own_set (own_set (own_set (own_set o3 hne 1 _) hne 2 _) hne 3 _) hne 4 _)
            have RW := Lib.hid (show RD W w1.heap.size y2 by rw [hW]; exact rd_other (rd_other (rd_other (rd_other R3.out hgp 1 _) hgp 2 _) hgp 3 _) hgp 4 _)
            have BW := Lib.hid (show Below w1.heap.size w1 W by rw [hW]; exact below_set (below_set (below_set (below_set bI3 hbm 1 _) hbm 2 _) hbm 3 _) hbm 4 _)
            have hPB : PB W w2.heap.size ⟨nm, vv.k, vv.n, vv.t, vv.r⟩ := by rw [hW]; exact pb_set HPB.out
            rw [← hW]
            obtain ⟨p, hp⟩ : ∃ p : Prp, p = ⟨nm, vv.k, vv.n, vv.t, vv.r⟩ := ⟨_, rfl⟩
            rw [← hp] at HN hPB
            have hnm : p.nm.size ≤ 255 := by rw [hp]; exact HY1.out.1
            have HNM := Lib.hid hnm
            obtain ⟨s0, s1, s2, s3, s4⟩ := pb_facts hPB
            have HPW := Lib.hid hPB
            have hal := Lib.hid (show acc.length ≤ 1073741824 by have := HX.out; have := HI.out.len; omega)
            clear hW o2 hne o3 hbm hgp bI3 hPB hp hnm q0 q1 q2 q3 q4 f1 f2 f3 f4 bI2 bal HV HPB R3 G3 R2 G2
            go_wp2_with (at_builtin; refine app_own (w0 := w1) w1.heap.size 24 48 5 56 _ Tryd.underlying24 info_prop rfl (by decide) rfl (.tmp 21) (.tmp 23) rfl u4 _ acc.length 1 (acc.flatMap Prp.cells) (Prp.cells p) rfl rfl (OW.out.alloc _) (prop_new W p) (cells_one [p]) (BW.out.alloc BW.out.size _) (by have := hal.out; omega) (by have := hal.out; omega) (by have := BW.out.size; simp; omega) ?_; intro v5 w5 o5 b5 g5 _; have O5 := Lib.hid o5; have B5 := Lib.hid b5; have G5 := Lib.hid g5; clear o5 b5 g5)
            go_roundg y2.size
            case measure => have := (itemP_size HN.out).1; omega
            case rel =>
              have hi := itemP_size HN.out
              exact ⟨acc ++ [p], y2, Nat.le_refl _, Lib.hid ⟨rd_own (rd_below RW.out (below_al1 _ _)) (OW.out.alloc _) G5.out, by have := O5.out; rw [List.length_append, List.flatMap_append]; simpa using this, B5.out, items_next HI.out.tot HY.out HN.out, by have := HI.out.len; rw [List.length_append]; simp only [List.length_cons, List.length_nil]; omega, fun q hq => by
                rcases List.mem_append.1 hq with hq | hq
                · exact HI.out.nms q hq
                · rw [List.mem_singleton.1 hq]; exact HNM.out⟩⟩
end Go.Proofs.YteigbejidfkhpaaDoor

/- The reference's reader: the next table. -/
namespace Go.Proofs.YteigbejidfkhpaaDoor
open Go Go.RowKit
set_option linter.unusedSimpArgs false
set_option linter.unusedVariables false

def RTabPost (w : World) (R : Nat) (O : Option (List Prp × ByteArray)) (e : Ending) (w' : World) : Prop :=
  ∃ v, e = .returned v ∧ OwnP w' w.heap.size v (outX [] O) ∧ RX w' R (leftX O) ∧ w.grownBy w' (some R)
structure TJ (w1 wr : World) (G : Nat) (x : ByteArray) (v : Value) (acc : List Prp) (y : ByteArray) : Prop where
  rd : RR wr G y false
  own : wr.ownsRow w1.heap.size 48 5 v acc.length (acc.flatMap Prp.cells)
  bel : Below w1.heap.size w1 wr
  tot : refIn x [] = refIn y acc
  len : acc.length + y.size ≤ x.size
  nms : ∀ p ∈ acc, p.nm.size ≤ 140737488351232 ∧ p.r < 18446744073709551616
theorem rx_set1 {w : World} {R : Nat} {o : Option ByteArray} (h : RX w R o) : RX (w.setCell ⟨R, 1, none⟩ (.bool true)) R none := by
  obtain ⟨s, b, h⟩ := rx_bad h
  exact ⟨s, rr_set1 h true⟩
theorem rtab_bad {w w' : World} {R : Nat} {O : Option (List Prp × ByteArray)} (hO : O = none) (hr : RX w' R none) (hg : w.grownBy w' (some R)) : RTabPost w R O (.returned (.slice none 0 0)) w' := by
  subst hO
  exact ⟨_, rfl, .inl ⟨rfl, rfl⟩, hr, hg⟩
theorem rtab_good {w w' : World} {R : Nat} {O : Option (List Prp × ByteArray)} {acc : List Prp} {o : Option ByteArray} {v : Value} (h1 : outX [] O = acc ∧ leftX O = o) (hv : OwnP w' w.heap.size v acc) (hr : RX w' R o) (hg : w.grownBy w' (some R)) : RTabPost w R O (.returned v) w' := by
  obtain ⟨h1, h2⟩ := h1
  subst h1 h2
  exact ⟨v, rfl, hv, hr, hg⟩
/-- A reader's writes leave a row of properties. -/
theorem own_rx {w w' : World} {B n g : Nat} {v : Value} {xs : List Value} {o : Option ByteArray} (h : w.ownsRow B 48 5 v n xs) (hr : RX w g o) (hg : w.grownBy w' (some g)) : w'.ownsRow B 48 5 v n xs := by
  obtain ⟨s, b, hr⟩ := rx_bad hr
  exact own_other h hg (fun k hk e' => own_ne h hr (by decide) (by rw [hk]; injection e' with e'; rw [e']))
theorem rx_facts {w : World} {R : Nat} {o : Option ByteArray} (h : RX w R o) : ∃ s b, w.cell? ⟨R, 0, none⟩ = some (.string s) ∧ w.cell? ⟨R, 1, none⟩ = some (.bool b) ∧ w.frozen? ⟨R, 1, none⟩ = false := by
  obtain ⟨s, b, h⟩ := rx_bad h
  obtain ⟨a, c, d, e⟩ := rr_facts h
  exact ⟨s, b, a, c, e⟩

set_option maxRecDepth 1000000 in
set_option maxHeartbeats 8000000 in
theorem refTable_c {w : World} {R : Nat} {o : Option ByteArray} (h : RX w R o) (hs : ∀ s, o = some s → s.size ≤ 1073741824) :
    Calls Tryd.prog 39 #[.pointer (some ⟨R, 0, none⟩)] w (RTabPost w R (o.bind tableP)) := by
  have HL := Lib.hid (xLong_c h)
  have qs := store_float (P := Tryd.prog)
  have HRL := Lib.hid (rx_lt h)
  obtain ⟨O, hO⟩ : ∃ O, O = o.bind longP := ⟨_, rfl⟩
  obtain ⟨x, hx⟩ : ∃ x, x = outX ByteArray.empty O := ⟨_, rfl⟩
  have hxs : x.size ≤ 1073741824 := by
    rw [hx]
    cases hOc : O with
    | none => exact Nat.zero_le _
    | some q =>
      rw [hOc] at hO
      cases o with
      | none => cases hO
      | some s =>
        have := longP_size hO.symm
        have := hs s rfl
        show q.1.size ≤ _
        omega
  have HX := Lib.hid hxs
  have HB1 := Lib.hid (fun h => tab_bad1 hO hx h)
  have HB2 := Lib.hid (fun acc h hv => tab_bad2 (acc := acc) hO hx h hv)
  have HGD := Lib.hid (fun acc h hv => tab_good (acc := acc) hO hx h hv)
  rw [← hO] at HL
  unfold XPost at HL
  rw [← hx] at HL
  clear hO hx h hxs hs
  go_enter Tryd.func39, Tryd.ntmps39
  go_wp2_with fail
  refine (HL.out).mono ?_
  rintro e w1 ⟨rfl, r1, g1⟩
  have R1 := Lib.hid r1
  have G1 := Lib.hid g1
  clear r1 g1 HL
  go_wp2_with fail
  go_loopg [4] x.size (fun kx v wr => ∃ (acc : List Prp) (y : ByteArray), y.size ≤ kx ∧ Hid (TJ w1 wr w1.heap.size x v acc y))
  case atStart =>
    exact ⟨[], x, Nat.le_refl _, Lib.hid ⟨heap_alloc_new w1 _, (own_nil w1 w1.heap.size 48 5).alloc _, (Below.refl _ _).alloc (Nat.le_refl _) _, rfl, by simp, by simp⟩⟩
  case round =>
    obtain ⟨acc, y, hyk, HI⟩ := hrel
    obtain ⟨c0, c1, f0, f1⟩ := rr_facts HI.out.rd
    by_cases hy : y.size = 0
    · have htot := Lib.hid (show refIn x [] = some acc by rw [HI.out.tot, refIn_end hy])
      obtain rfl := ba_nil hy
      have HV := refValid_c (ownP_rpr (own_ownP HI.out.own)) HI.out.nms
      clear hy hyk
      cases hv : validB acc with
      | true =>
        rw [hv] at HV
        have HV' := Lib.hid HV
        have HVB := Lib.hid hv
        clear HV hv
        go_wp2_with fail
        refine (HV'.out).mono ?_
        rintro e w2 ⟨rfl, b2⟩
        go_wp2_with fail
        go_ret
        have B2 := HI.out.bel.trans (b2.mono HI.out.bel.size)
        have O2 := own_below HI.out.own b2
        exact rtab_good (HGD.out _ htot.out HVB.out) (ownP_lower (own_ownP O2) G1.out.size) (rx_below R1.out B2) (G1.out.trans (grownBy_below B2 _))
      | false =>
        rw [hv] at HV
        have HV' := Lib.hid HV
        have HVB := Lib.hid hv
        clear HV hv
        go_wp2_with fail
        refine (HV'.out).mono ?_
        rintro e w2 ⟨rfl, b2⟩
        have B2 := HI.out.bel.trans (b2.mono HI.out.bel.size)
        have R2 := Lib.hid (rx_below R1.out B2)
        obtain ⟨s', bb', d0, d1, d2⟩ := rx_facts R2.out
        go_wp2_with fail
        go_ret
        exact rtab_bad (HB2.out _ htot.out HVB.out) (rx_set1 R2.out) ((G1.out.trans (grownBy_below B2 _)).trans (grownBy_set _ R 1 _))
    · have hE := ne_nil y (by omega)
      have HY := Lib.hid hy
      have HS := Lib.hid (xShort_c (o := some y) HI.out.rd)
      clear hy
      go_wp2_with fail
      refine (HS.out).mono ?_
      rintro e w2 ⟨rfl, r2, g2⟩
      obtain ⟨nm, hnm⟩ : ∃ nm, nm = outX ByteArray.empty ((some y).bind shortP) := ⟨_, rfl⟩
      have hnms : nm.size ≤ 255 := by
        rw [hnm, Option.bind_some]
        cases hs2 : shortP y with
        | none => exact Nat.zero_le _
        | some q => exact (shortP_size (show shortP y = some (q.1, q.2) from hs2)).1
      rw [← hnm]
      have HNM := Lib.hid hnm
      have HNS := Lib.hid hnms
      have R2 := Lib.hid r2
      have G2 := Lib.hid g2
      clear r2 g2 hnm hnms c0 c1 f0 f1
      have hr2 : RX (w2.alloc (.cells #[.string nm, .int .i64 0, .int .i64 0, .string ⟨#[]⟩, .float .f64 0] 48)) w1.heap.size (leftX ((some y).bind shortP)) := rx_below R2.out (below_al1 _ _)
      have HV := Lib.hid (xValue_c hr2)
      have bal := Lib.hid (below_al1 w2 (.cells #[.string nm, .int .i64 0, .int .i64 0, .string ⟨#[]⟩, .float .f64 0] 48))
      have bI2 := Lib.hid (below_grown HI.out.bel G2.out (Nat.le_refl _) HI.out.bel.size)
      clear hr2
      go_wp2_with fail
      refine (HV.out).mono ?_
      rintro e w3 ⟨vv, rfl, hvv, r3, g3⟩
      unfold Vl.val
      have hpb : w3.heap[w2.heap.size]? = some (.cells #[.string nm, .int .i64 0, .int .i64 0, .string ⟨#[]⟩, .float .f64 0] 48 (0, 0)) := by
        rw [g3.block w2.heap.size (by simp) (fun e => by injection e with e; have := rx_lt R2.out; omega)]
        exact heap_alloc_new w2 _
      have q0 : w3.cell? ⟨w2.heap.size, 0, none⟩ = some (.string nm) := by simp [World.cell?, hpb]
      have q1 : w3.cell? ⟨w2.heap.size, 1, none⟩ = some (.int .i64 0) := by simp [World.cell?, hpb]
      have q2 : w3.cell? ⟨w2.heap.size, 2, none⟩ = some (.int .i64 0) := by simp [World.cell?, hpb]
      have q3 : w3.cell? ⟨w2.heap.size, 3, none⟩ = some (.string ⟨#[]⟩) := by simp [World.cell?, hpb]
      have q4 : w3.cell? ⟨w2.heap.size, 4, none⟩ = some (.float .f64 0) := by simp [World.cell?, hpb]
      have f0' : ∀ j, w3.frozen? ⟨w2.heap.size, j, none⟩ = false := fun j => by simp [World.frozen?, hpb]
      have f1 := f0' 1
      have f2 := f0' 2
      have f3 := f0' 3
      have f4 := f0' 4
      have HPB := Lib.hid hpb
      have R3 := Lib.hid r3
      have G3 := Lib.hid g3
      have HVV := Lib.hid hvv
      clear hpb f0' r3 g3 hvv
      go_upto_region 6 with fail
      obtain ⟨W, hW⟩ : ∃ W, W = ((((w3.setCell ⟨w2.heap.size, 1, none⟩ (.int .i64 vv.k)).setCell ⟨w2.heap.size, 2, none⟩ (.int .i64 vv.n)).setCell ⟨w2.heap.size, 3, none⟩ (.string vv.t)).setCell ⟨w2.heap.size, 4, none⟩ (.float .f64 vv.r)) := ⟨_, rfl⟩
      have o2 := own_rx (o := some y) HI.out.own HI.out.rd G2.out
      have hne : u4.ownBlock ≠ some w2.heap.size := fun e => by have := own_lt o2 e; omega
      have o3 := own_rx (o2.alloc (.cells #[.string nm, .int .i64 0, .int .i64 0, .string ⟨#[]⟩, .float .f64 0] 48)) (rx_below R2.out bal.out) G3.out
      have hbm : w1.heap.size ≤ w2.heap.size := bI2.out.size
      have hgl : w1.heap.size < w2.heap.size := rx_lt R2.out
      have hgp : w1.heap.size ≠ w2.heap.size := by omega
      have bI3 := below_grown (bI2.out.trans (bal.out.mono bI2.out.size)) G3.out (Nat.le_refl _) (Nat.le_trans bI2.out.size bal.out.size)
      have OW := Lib.hid (show W.ownsRow w1.heap.size 48 5 u4 acc.length (acc.flatMap Prp.cells) by rw [hW]; exact own_set (own_set (own_set (own_set o3 hne 1 _) hne 2 _) hne 3 _) hne 4 _)
      have RW := Lib.hid (show RX W w1.heap.size (leftX ((leftX ((some y).bind shortP)).bind valP)) by rw [hW]; exact rx_other (rx_other (rx_other (rx_other R3.out hgp 1 _) hgp 2 _) hgp 3 _) hgp 4 _)
      have BW := Lib.hid (show Below w1.heap.size w1 W by rw [hW]; exact below_set (below_set (below_set (below_set bI3 hbm 1 _) hbm 2 _) hbm 3 _) hbm 4 _)
      have hPB : PB W w2.heap.size ⟨nm, vv.k, vv.n, vv.t, vv.r⟩ := by rw [hW]; exact pb_set HPB.out
      rw [← hW]
      obtain ⟨p, hp⟩ : ∃ p : Prp, p = ⟨nm, vv.k, vv.n, vv.t, vv.r⟩ := ⟨_, rfl⟩
      obtain ⟨O3, hO3⟩ : ∃ O3, O3 = leftX ((leftX ((some y).bind shortP)).bind valP) := ⟨_, rfl⟩
      have HIT := Lib.hid (show ∀ y2, O3 = some y2 → itemP y = some (p, y2) from fun y2 h => by rw [hO3] at h; rw [item_of HVV.out h, ← HNM.out, hp])
      have HOL := Lib.hid (show O3 = itemL y from hO3)
      rw [← hp] at hPB
      rw [← hO3] at RW
      have HPN := Lib.hid (show p.nm.size ≤ 255 by rw [hp]; exact HNS.out)
      have HPW := Lib.hid hPB
      have HGL := Lib.hid hgl
      have HWL := Lib.hid (rx_lt RW.out)
      obtain ⟨A, c, rfl, hAc, hcell⟩ := props_at (ownP_rpr (own_ownP OW.out))
      clear hW o2 hne o3 hbm hgl hgp bI3 hPB hp hO3 hcell q0 q1 q2 q3 q4 f1 f2 f3 f4 bI2 bal HV HPB R3 G3 R2 G2 HVV HNM HNS HS
      have hal : acc.length ≤ 1073741824 := by have := HX.out; have := HI.out.len; omega
      go_wp2_with fail
      go_loopw [36] (fun i wr => ∃ k : Nat, k ≤ acc.length ∧ i = .int .i64 k ∧ Hid (RX wr w1.heap.size (dupX p (acc.take k) O3)) ∧ Hid (W.grownBy wr (some w1.heap.size))) (fun i _ => acc.length - (intOf i).toNat)
      case atStart => exact ⟨0, Nat.zero_le _, rfl, Lib.hid RW.out, Lib.hid (World.grownBy.refl W _)⟩
      case round =>
        obtain ⟨k, hk, rfl, RK, GK⟩ := hrel
        have hpb := Lib.hid (show PB wr w2.heap.size p by unfold PB; rw [GK.out.block _ (pb_lt HPW.out) (fun e => by injection e with e; have := HGL.out; omega)]; exact HPW.out)
        obtain ⟨y0, _, _, _, _⟩ := pb_facts hpb.out
        have OK := Lib.hid (own_rx OW.out RW.out GK.out)
        by_cases hlt : k < acc.length
        · obtain ⟨p', hp'⟩ : ∃ p', acc[k]? = some p' := ⟨_, List.getElem?_eq_getElem hlt⟩
          obtain ⟨A', c', he, _, hcell⟩ := props_at (ownP_rpr (own_ownP OK.out))
          injection he with e1 e2 e3
          subst e1 e3
          obtain ⟨a, rfl, g0, g1', g2', g3', g4'⟩ := hcell k p' hp'
          have HP' := Lib.hid hp'
          have HLT := Lib.hid hlt
          have hltI : (k : Int) < acc.length := by omega
          have hk0 : (0 : Int) ≤ k := by omega
          have hts : acc.take (k + 1) = acc.take k ++ [p'] := by rw [List.take_add_one, hp']; rfl
          have HTS := Lib.hid hts
          clear hp' hcell hlt hts e2
          obtain ⟨WA, hWA⟩ : ∃ WA, WA = wr.alloc (.cells #[.string p'.nm, .int .i64 p'.k, .int .i64 p'.n, .string p'.t, .float .f64 p'.r] 48) := ⟨_, rfl⟩
          have hbA : Below wr.heap.size wr WA := by rw [hWA]; exact below_al1 _ _
          have x0 : WA.cell? ⟨wr.heap.size, 0, none⟩ = some (.string p'.nm) := by rw [hWA]; exact (pb_facts (pb_new wr p')).1
          have y1 : WA.cell? ⟨w2.heap.size, 0, none⟩ = some (.string p.nm) := by rw [hWA]; exact (pb_facts (pb_alloc hpb.out _)).1
          have RA := Lib.hid (rx_below RK.out hbA)
          have GA := Lib.hid (GK.out.trans (grownBy_below hbA (some w1.heap.size)))
          obtain ⟨s', bb', d0, d1, d2⟩ := rx_facts RA.out
          go_upto_region 9 with fail
          rw [← hWA]
          have HWA := Lib.hid hWA
          clear hWA hbA y0 g0 g1' g2' g3' g4' d0
          by_cases hd : p'.nm = p.nm
          · rw [hd] at x0
            have HD := Lib.hid hd
            clear hd
            go_wp2_with fail
            go_roundw
            case rel => exact ⟨k + 1, HLT.out, by go_num, Lib.hid (by rw [HTS.out, dup_yes HD.out]; exact rx_set1 RA.out), Lib.hid (GA.out.trans (grownBy_set _ _ 1 _))⟩
            case measure => have := HLT.out; simp [intOf]; omega
          · have hd' := str_ne hd
            have HD := Lib.hid hd
            clear hd
            go_wp2_with fail
            go_roundw
            case rel => exact ⟨k + 1, HLT.out, by go_num, Lib.hid (by rw [HTS.out, dup_no HD.out]; exact RA.out), GA⟩
            case measure => have := HLT.out; simp [intOf]; omega
        · obtain rfl : k = acc.length := by omega
          have htk : acc.take acc.length = acc := List.take_of_length_le (Nat.le_refl _)
          rw [htk] at RK
          clear htk hlt hk
          obtain ⟨o4, ho4⟩ : ∃ o4, o4 = dupX p acc O3 := ⟨_, rfl⟩
          rw [← ho4] at RK
          have HO4 := Lib.hid ho4
          clear ho4
          cases o4 with
          | none =>
            have hno := Lib.hid (in_stop HI.out.tot HY.out HIT.out HOL.out HO4.out.symm)
            obtain ⟨s', hR⟩ := RK.out
            obtain ⟨d0, d1, d2, d3⟩ := rr_facts hR
            have HR := Lib.hid hR
            clear hR d0 d2 d3
            have BB := Lib.hid (below_grown BW.out GK.out (Nat.le_refl _) BW.out.size)
            have R2 := Lib.hid (rx_below R1.out BB.out)
            obtain ⟨s3, bb3, e0, e1, e2⟩ := rx_facts R2.out
            go_wp2_with fail
            go_ret
            exact rtab_bad (HB1.out hno.out) (rx_set1 R2.out) ((G1.out.trans (grownBy_below BB.out _)).trans (grownBy_set _ R 1 _))
          | some y2 =>
            have hdo := dup_some HO4.out.symm
            have HF := Lib.hid hdo.2
            have HIY := Lib.hid (HIT.out y2 hdo.1)
            obtain ⟨d0, d1, d2, d3⟩ := rr_facts (show RR wr w1.heap.size y2 false from RK.out)
            clear hdo d0 d2 d3
            have BB := Lib.hid (below_grown BW.out GK.out (Nat.le_refl _) BW.out.size)
            by_cases h16 : 16 < acc.length
            · have h16' : (16 : Int) < acc.length := by omega
              have HV := refValid_c (ownP_rpr (own_ownP OK.out)) HI.out.nms
              rw [valid_17 h16] at HV
              have HV' := Lib.hid HV
              have hno := Lib.hid (in_long HI.out.tot HY.out HIY.out h16)
              clear HV h16
              go_wp2_with fail
              refine (HV'.out).mono ?_
              rintro e w5 ⟨rfl, b5⟩
              have B5 := Lib.hid (BB.out.trans (b5.mono BB.out.size))
              have R2 := Lib.hid (rx_below R1.out B5.out)
              obtain ⟨s3, bb3, e0, e1, e2⟩ := rx_facts R2.out
              clear b5
              go_wp2_with fail
              go_ret
              exact rtab_bad (HB1.out hno.out) (rx_set1 R2.out) ((G1.out.trans (grownBy_below B5.out _)).trans (grownBy_set _ R 1 _))
            · have h16' : (acc.length : Int) ≤ 16 := by omega
              have H16 := Lib.hid (show acc.length ≤ 16 by omega)
              have hnx := Lib.hid (in_next HI.out.tot HY.out HIY.out HF.out H16.out)
              obtain ⟨w4, hw4⟩ : ∃ w4, w4 = wr := ⟨_, rfl⟩
              have HW4 := Lib.hid hw4
              have OK4 : Hid (w4.ownsRow w1.heap.size 48 5 (.slice A acc.length c) acc.length (acc.flatMap Prp.cells)) := Lib.hid (by rw [hw4]; exact OK.out)
              have PB4 : Hid (PB w4 w2.heap.size p) := Lib.hid (by rw [hw4]; exact hpb.out)
              have RK4 : Hid (RX w4 w1.heap.size (some y2)) := Lib.hid (by rw [hw4]; exact RK.out)
              have BB4 : Hid (Below w1.heap.size w1 w4) := Lib.hid (by rw [hw4]; exact BB)
              have h16n : acc.length ≤ 16 := H16.out
              clear h16 hw4 GK OK hpb RK BB y0
              go_wp2_with fail
              go_loopw [8, 9, 60] (fun m l i wx => ∃ (k : Nat) (T : List Prp × Bool), k ≤ acc.length ∧ i = .int .i64 k ∧ Hid (T = insT p (acc.take k) ([], false)) ∧ l = .bool T.2 ∧ Hid (wx.ownsRow w4.heap.size 48 5 m T.1.length (T.1.flatMap Prp.cells)) ∧ Hid (Below w4.heap.size w4 wx)) (fun _ _ i _ => acc.length - (intOf i).toNat)
              case atStart => exact ⟨0, ([], false), Nat.zero_le _, rfl, Lib.hid rfl, rfl, Lib.hid (own_nil _ _ _ _), Lib.hid (by rw [HW4.out]; exact Below.refl _ _)⟩
              case round =>
                obtain ⟨k, ⟨T1, T2⟩, hk, rfl, HT, rfl, OM, BM⟩ := hrel
                have hTl : T1.length ≤ 40 := by
                  have h := insT_len p (acc.take k) ([], false)
                  rw [← HT.out, List.length_take] at h
                  simp only [List.length_nil] at h
                  omega
                have HTL := Lib.hid hTl
                have PX := Lib.hid (pb_below PB4.out BM.out (pb_lt PB4.out))
                by_cases hlt : k < acc.length
                · obtain ⟨p', hp'⟩ : ∃ p', acc[k]? = some p' := ⟨_, List.getElem?_eq_getElem hlt⟩
                  obtain ⟨A', c', he, _, hcell⟩ := props_at (ownP_rpr (own_ownP (own_below OK4.out BM.out)))
                  injection he with e1 e2 e3
                  subst e1 e3
                  obtain ⟨a, rfl, g0, g1', g2', g3', g4'⟩ := hcell k p' hp'
                  have HLT := Lib.hid hlt
                  have hltI : (k : Int) < acc.length := by omega
                  have hk0 : (0 : Int) ≤ k := by omega
                  have hts : acc.take (k + 1) = acc.take k ++ [p'] := by rw [List.take_add_one, hp']; rfl
                  have HST := Lib.hid (show insT p (acc.take (k + 1)) ([], false) = if T2 = false ∧ Go.Op.bytesLess p.nm.toList p'.nm.toList = true then (T1 ++ [p, p'], true) else (T1 ++ [p'], T2) by rw [hts, insT_snoc, ← HT.out])
                  clear hp' hcell hlt hts e2 hTl
                  obtain ⟨WA, hWA⟩ : ∃ WA, WA = wr.alloc (.cells #[.string p'.nm, .int .i64 p'.k, .int .i64 p'.n, .string p'.t, .float .f64 p'.r] 48) := ⟨_, rfl⟩
                  have BA := Lib.hid (show Below w4.heap.size w4 WA by rw [hWA]; exact BM.out.alloc BM.out.size _)
                  have OA := Lib.hid (show WA.ownsRow w4.heap.size 48 5 u8 T1.length (T1.flatMap Prp.cells) by rw [hWA]; exact OM.out.alloc _)
                  have PA := Lib.hid (show PB WA wr.heap.size p' by rw [hWA]; exact pb_new wr p')
                  have PP := Lib.hid (show PB WA w2.heap.size p by rw [hWA]; exact pb_alloc PX.out _)
                  have hou := Lib.hid (show ∀ j, u8.ownBlock = some j → j ≠ wr.heap.size from fun j hj => by have := own_lt OM.out hj; omega)
                  obtain ⟨x0, x1, x2, x3, x4⟩ := pb_facts PA.out
                  obtain ⟨y0, y1, y2', y3, y4⟩ := pb_facts PP.out
                  go_upto_region 18 with fail
                  rw [← hWA]
                  clear hWA g0 g1' g2' g3' g4'
                  cases T2 with
                  | true =>
                    rw [if_neg (by simp)] at HST
                    go_wp2_with (at_builtin; refine app_own (w0 := w4) w4.heap.size 24 48 5 56 _ Tryd.underlying24 info_prop rfl (by decide) rfl (.tmp 77) (.tmp 79) rfl u8 _ T1.length 1 (T1.flatMap Prp.cells) (Prp.cells p') rfl rfl (OA.out.alloc _) (prop_new WA p') (cells_one [p']) (BA.out.alloc BA.out.size _) (by have := HTL.out; first | omega | (simp only [List.length_append, List.length_cons, List.length_nil]; omega)) (by have := HTL.out; first | omega | (simp only [List.length_append, List.length_cons, List.length_nil]; omega)) (by have := BA.out.size; simp; omega) ?_; intro v5 w5 o5 b5 g5 _; have O5 := Lib.hid o5; have B5 := Lib.hid b5; have G5 := Lib.hid g5; clear o5 b5 g5)
                    go_roundw
                    case rel => exact ⟨k + 1, _, HLT.out, by go_num, Lib.hid HST.out.symm, rfl, Lib.hid (by have := O5.out; simpa using this), B5⟩
                    case measure => have := HLT.out; simp [intOf]; omega
                  | false =>
                    cases hls : Go.Op.bytesLess p.nm.toList p'.nm.toList with
                    | true =>
                      rw [if_pos ⟨rfl, hls⟩] at HST
                      go_upto_region 19 with fail
                      go_upto_region 20 with (at_builtin; refine app_own (w0 := w4) w4.heap.size 24 48 5 56 _ Tryd.underlying24 info_prop rfl (by decide) rfl (.tmp 73) (.tmp 75) rfl u8 _ T1.length 1 (T1.flatMap Prp.cells) (Prp.cells p) rfl rfl (OA.out.alloc _) (prop_new WA p) (cells_one [p]) (BA.out.alloc BA.out.size _) (by have := HTL.out; first | omega | (simp only [List.length_append, List.length_cons, List.length_nil]; omega)) (by have := HTL.out; first | omega | (simp only [List.length_append, List.length_cons, List.length_nil]; omega)) (by have := BA.out.size; simp; omega) ?_; intro v5 w5 o5 b5 g5 _; have O5 := Lib.hid o5; have B5 := Lib.hid b5; have G5 := Lib.hid g5; clear o5 b5 g5)
                      have O6 := Lib.hid (show w5.ownsRow w4.heap.size 48 5 v5 (T1 ++ [p]).length ((T1 ++ [p]).flatMap Prp.cells) from by rw [List.length_append, List.flatMap_append]; have := O5.out; simpa using this)
                      have PA5 := Lib.hid (show PB w5 wr.heap.size p' from by
                        unfold PB
                        rw [G5.out.block _ (by have := pb_lt PA.out; simp; omega) (fun e => hou.out _ e.symm rfl)]
                        exact pb_alloc PA.out _)
                      clear x0 x1 x2 x3 x4 y0 y1 y2' y3 y4
                      obtain ⟨x0, x1, x2, x3, x4⟩ := pb_facts PA5.out
                      go_wp2_with (at_builtin; refine app_own (w0 := w4) w4.heap.size 24 48 5 56 _ Tryd.underlying24 info_prop rfl (by decide) rfl (.tmp 77) (.tmp 79) rfl v5 _ (T1 ++ [p]).length 1 ((T1 ++ [p]).flatMap Prp.cells) (Prp.cells p') rfl rfl (O6.out.alloc _) (prop_new w5 p') (cells_one [p']) (B5.out.alloc B5.out.size _) (by have := HTL.out; first | omega | (simp only [List.length_append, List.length_cons, List.length_nil]; omega)) (by have := HTL.out; first | omega | (simp only [List.length_append, List.length_cons, List.length_nil]; omega)) (by have := B5.out.size; simp; omega) ?_; intro v7 w7 o7 b7 g7 _; have O7 := Lib.hid o7; have B7 := Lib.hid b7; have G7 := Lib.hid g7; clear o7 b7 g7)
                      go_roundw
                      case rel => exact ⟨k + 1, _, HLT.out, by go_num, Lib.hid HST.out.symm, rfl, Lib.hid (by have := O7.out; simpa using this), B7⟩
                      case measure => have := HLT.out; simp [intOf]; omega
                    | false =>
                      rw [if_neg (fun k => by have := k.2; rw [hls] at this; cases this)] at HST
                      go_wp2_with (at_builtin; refine app_own (w0 := w4) w4.heap.size 24 48 5 56 _ Tryd.underlying24 info_prop rfl (by decide) rfl (.tmp 77) (.tmp 79) rfl u8 _ T1.length 1 (T1.flatMap Prp.cells) (Prp.cells p') rfl rfl (OA.out.alloc _) (prop_new WA p') (cells_one [p']) (BA.out.alloc BA.out.size _) (by have := HTL.out; first | omega | (simp only [List.length_append, List.length_cons, List.length_nil]; omega)) (by have := HTL.out; first | omega | (simp only [List.length_append, List.length_cons, List.length_nil]; omega)) (by have := BA.out.size; simp; omega) ?_; intro v5 w5 o5 b5 g5 _; have O5 := Lib.hid o5; have B5 := Lib.hid b5; have G5 := Lib.hid g5; clear o5 b5 g5)
                      go_roundw
                      case rel => exact ⟨k + 1, _, HLT.out, by go_num, Lib.hid HST.out.symm, rfl, Lib.hid (by have := O5.out; simpa using this), B5⟩
                      case measure => have := HLT.out; simp [intOf]; omega
                · obtain rfl : k = acc.length := by omega
                  have htk : acc.take acc.length = acc := List.take_of_length_le (Nat.le_refl _)
                  have hen := insT_end p acc []
                  rw [htk] at HT
                  rw [← HT.out, List.nil_append] at hen
                  have HEN := Lib.hid hen
                  have HNQ := Lib.hid (show ∀ q ∈ insP p acc, q.nm.size ≤ 140737488351232 ∧ q.r < 18446744073709551616 from fun q hq => by
                    rcases List.mem_cons.1 ((insP_perm p acc).mem_iff.1 hq) with rfl | hq
                    · exact ⟨by have := HPN.out; omega, itemP_r w HIY.out⟩
                    · exact HI.out.nms q hq)
                  have hnew : ∀ (wN : World) (vN : Value), wN.ownsRow w4.heap.size 48 5 vN (insP p acc).length ((insP p acc).flatMap Prp.cells) → Below w4.heap.size w4 wN → TJ w1 wN w1.heap.size x vN (insP p acc) y2 := fun wN vN h1 h2 =>
                    ⟨rx_below (o := some y2) RK4.out h2, own_lower h1 BB4.out.size, BB4.out.trans (h2.mono BB4.out.size), hnx.out, by have := HI.out.len; have := (itemP_size HIY.out).1; rw [insP_len]; omega, HNQ.out⟩
                  have HNEW := Lib.hid hnew
                  clear htk hen hlt hk hTl hnew
                  obtain ⟨y0, y1, y2', y3, y4⟩ := pb_facts PX.out
                  cases T2 with
                  | true =>
                    have hE2 : T1 = insP p acc := by have := HEN.out; simpa using this
                    subst hE2
                    go_wp2_with fail
                    go_roundg y2.size
                    case measure => have := (itemP_size HIY.out).1; omega
                    case rel => exact ⟨insP p acc, y2, Nat.le_refl _, Lib.hid (HNEW.out _ _ OM.out BM.out)⟩
                  | false =>
                    have hE2 : T1 ++ [p] = insP p acc := by have := HEN.out; simpa using this
                    have HE2 := Lib.hid hE2
                    clear hE2
                    go_wp2_with (at_builtin; refine app_own (w0 := w4) w4.heap.size 24 48 5 56 _ Tryd.underlying24 info_prop rfl (by decide) rfl (.tmp 84) (.tmp 86) rfl u8 _ T1.length 1 (T1.flatMap Prp.cells) (Prp.cells p) rfl rfl (OM.out.alloc _) (prop_new wr p) (cells_one [p]) (BM.out.alloc BM.out.size _) (by have := HTL.out; first | omega | (simp only [List.length_append, List.length_cons, List.length_nil]; omega)) (by have := HTL.out; first | omega | (simp only [List.length_append, List.length_cons, List.length_nil]; omega)) (by have := BM.out.size; simp; omega) ?_; intro v5 w5 o5 b5 g5 _; have O5 := Lib.hid o5; have B5 := Lib.hid b5; have G5 := Lib.hid g5; clear o5 b5 g5)
                    go_roundg y2.size
                    case measure => have := (itemP_size HIY.out).1; omega
                    case rel => exact ⟨insP p acc, y2, Nat.le_refl _, Lib.hid (HNEW.out _ _ (by rw [← HE2.out, List.length_append, List.flatMap_append]; have := O5.out; simpa using this) B5.out)⟩
end Go.Proofs.YteigbejidfkhpaaDoor

/- Layer 15: a reading that gives up: guard. -/
namespace Go.Proofs.YteigbejidfkhpaaDoor
open Go Go.RowKit
set_option linter.unusedSimpArgs false
set_option linter.unusedVariables false

set_option maxRecDepth 100000 in
theorem catch_idle (p : Addr) (w : World) :
    CallsD Tryd.prog 59 #[.pointer (some p)] .returning w fun e u' w' => e = .returned (.tuple #[]) ∧ u' = .returning ∧ w' = w := by
  refine callsD_of_wpS Tryd.func59 rfl fun c₀ cs hu => ?_
  apply wpS_seq
  apply wpS_region
  simp [wpOpsS, go_sem, recoverD, hu, Tryd.ntmps59, Exit.thenS]
  refine wpS_of_wp ?_
  go_wp2
  cases c₀
  simp_all [bodyPostS, results, Tryd.results59]
set_option maxRecDepth 100000 in
theorem catch_stop (p : Addr) (b : Bool) (older : List PanicEntry) (w : World) (hc : w.cell? p = some (.bool b)) (hz : w.frozen? p = false) :
    CallsD Tryd.prog 59 #[.pointer (some p)] (.panicking ({ v := .iface 87 (.agg #[]), recovered := false } :: older)) w fun e u' w' =>
      e = .returned (.tuple #[]) ∧ u' = .panicking ({ v := .iface 87 (.agg #[]), recovered := true } :: older) ∧ w' = (w.alloc (.cells #[] 87)).setCell p (.bool false) := by
  refine callsD_of_wpS Tryd.func59 rfl fun c₀ cs hu => ?_
  apply wpS_seq
  apply wpS_region
  simp [wpOpsS, go_sem, recoverD, hu, Tryd.ntmps59, Exit.thenS]
  refine wpS_of_wp ?_
  have hta : ∀ w : World, (Instr.typeAssert (.iface 87 (.agg #[])) 20 87 true).run Tryd.prog w = .ok (.tuple #[.agg #[], .bool true]) w := fun w => by kernel_rfl
  have hlt := World.block_lt_of_cell? w _ hc
  have hc' : (w.alloc (.cells #[] 87)).cell? p = some (.bool b) := ((below_al1 w _).cell hlt).trans hc
  have hz' : (w.alloc (.cells #[] 87)).frozen? p = false := ((below_al1 w _).frozen hlt).trans hz
  go_wp2
  simp_all [bodyPostS, results, Tryd.results59]

set_option maxRecDepth 100000 in
theorem guard_yes {c : FuncId} {cap : Array Value} {w : World} {R : World → Prop} (hen : ∀ args w, (callFunc c args).run Tryd.prog w = .ok (.enter c args) w)
    (h : Calls Tryd.prog c cap (w.alloc (.cells #[.bool false] 4)) fun e w' => e = .returned (.tuple #[]) ∧ R w' ∧ w'.cell? ⟨w.heap.size, 0, none⟩ = some (.bool false) ∧ w'.frozen? ⟨w.heap.size, 0, none⟩ = false) :
    Calls Tryd.prog 36 #[.func (.func c) #[] cap] w fun e w' => e = .returned (.bool true) ∧ ∃ w1, R w1 ∧ w' = w1.setCell ⟨w.heap.size, 0, none⟩ (.bool true) := by
  have hmf : ∀ (fn : Fn) (first cap : Array Value) (w : World), (Instr.makeFunc fn first cap).run Tryd.prog w = .ok (.func fn first cap) w := fun _ _ _ _ => rfl
  have H := Lib.hid h
  clear h
  go_enter_defers Tryd.func36, Tryd.ntmps36
  go_wp2
  refine (H.out).mono ?_
  rintro e w1 ⟨rfl, hR, hc, hf⟩
  have HR := Lib.hid hR
  clear hR
  go_wp2
  refine leaves_cons (f := 59) (args := #[.pointer (some ⟨w.heap.size, 0, none⟩)]) (by simp) (by simp [go_sem]) ?_
  refine (catch_idle ⟨w.heap.size, 0, none⟩ _).mono ?_
  rintro e u' w'' ⟨rfl, rfl, rfl⟩
  have hc2 : (w1.setCell ⟨w.heap.size, 0, none⟩ (.bool true)).cell? ⟨w.heap.size, 0, none⟩ = some (.bool true) := World.cell?_setCell_same' _ _ _ (by rw [hc]; rfl)
  simp [Leaves, settle, results, Tryd.results36, go_sem, hc2]
  exact ⟨w1, HR.out, rfl⟩
set_option maxRecDepth 100000 in
theorem guard_no {c : FuncId} {cap : Array Value} {w : World} {R : World → Prop} (hen : ∀ args w, (callFunc c args).run Tryd.prog w = .ok (.enter c args) w)
    (h : Calls Tryd.prog c cap (w.alloc (.cells #[.bool false] 4)) fun e w' => e = StopE ∧ R w' ∧ w'.cell? ⟨w.heap.size, 0, none⟩ = some (.bool false) ∧ w'.frozen? ⟨w.heap.size, 0, none⟩ = false) :
    Calls Tryd.prog 36 #[.func (.func c) #[] cap] w fun e w' => e = .returned (.bool false) ∧ ∃ w1, R w1 ∧ w' = (w1.alloc (.cells #[] 87)).setCell ⟨w.heap.size, 0, none⟩ (.bool false) := by
  have hmf : ∀ (fn : Fn) (first cap : Array Value) (w : World), (Instr.makeFunc fn first cap).run Tryd.prog w = .ok (.func fn first cap) w := fun _ _ _ _ => rfl
  have H := Lib.hid h
  clear h
  go_enter_defers Tryd.func36, Tryd.ntmps36
  go_wp2
  refine (H.out).mono ?_
  rintro e w1 ⟨rfl, hR, hc, hf⟩
  have HR := Lib.hid hR
  clear hR
  go_wp2
  refine leaves_cons (f := 59) (args := #[.pointer (some ⟨w.heap.size, 0, none⟩)]) (by simp) (by simp [go_sem]) ?_
  refine (catch_stop ⟨w.heap.size, 0, none⟩ false [] _ hc hf).mono ?_
  rintro e u' w'' ⟨rfl, rfl, rfl⟩
  have hlt := World.block_lt_of_cell? w1 _ hc
  have hc2 : ((w1.alloc (.cells #[] 87)).setCell ⟨w.heap.size, 0, none⟩ (.bool false)).cell? ⟨w.heap.size, 0, none⟩ = some (.bool false) := World.cell?_setCell_same' _ _ _ (by rw [((below_al1 w1 _).cell hlt).trans hc]; rfl)
  simp [Leaves, settle, results, Tryd.results36, go_sem, hc2]
  exact ⟨w1, HR.out, rfl⟩
end Go.Proofs.YteigbejidfkhpaaDoor

/- Layer 15: table.Take. -/
namespace Go.Proofs.YteigbejidfkhpaaDoor
open Go Go.RowKit
set_option linter.unusedSimpArgs false
set_option linter.unusedVariables false

set_option maxRecDepth 100000 in
theorem take1_yes {w : World} {a5 a6 : Addr} {G : Nat} {s r : ByteArray} {ps : List Prp} {c6 : Value} (h5 : w.cell? a5 = some (.pointer (some ⟨G, 0, none⟩))) (hG : RD w G s) (hs : s.size ≤ 1073741824) (h6 : w.cell? a6 = some c6) (f6 : w.frozen? a6 = false) (hne : a6.block ≠ G) (ho : tableP s = some (ps, r)) :
    Calls Tryd.prog 37 #[.pointer (some a5), .pointer (some a6)] w fun e w' => e = .returned (.tuple #[]) ∧ ∃ v w1, w.grownBy w1 (some G) ∧ OwnP w1 w.heap.size v ps ∧ RD w1 G r ∧ w' = w1.setCell a6 v := by
  have hT := rdTable_c hG hs
  rw [ho] at hT
  have HT := Lib.hid hT
  have HB := Lib.hid (World.block_lt_of_cell? w _ h6)
  have HN := Lib.hid hne
  clear hT ho hG hne
  go_enter Tryd.func37, Tryd.ntmps37
  go_wp2_with fail
  refine (HT.out).mono ?_
  rintro e w1 ⟨g1, v, rfl, hv, hr⟩
  have hb := g1.block a6.block HB.out (fun e => HN.out (by injection e))
  have h6' : w1.cell? a6 = some c6 := (World.cell?_of_block (w := w) hb).trans h6
  have f6' : w1.frozen? a6 = false := (World.frozen?_of_block (w := w) hb).trans f6
  have HV := Lib.hid hv
  have HR := Lib.hid hr
  have G1 := Lib.hid g1
  clear hb hv hr g1
  rcases HV.out with ⟨rfl, _⟩ | ⟨g, cap, rfl, _⟩
  · go_wp2_with fail
    go_end0
    exact ⟨rfl, _, w1, G1.out, HV.out, HR.out, rfl⟩
  · go_wp2_with fail
    go_end0
    exact ⟨rfl, _, w1, G1.out, HV.out, HR.out, rfl⟩
set_option maxRecDepth 100000 in
theorem take1_no {w : World} {a5 a6 : Addr} {G : Nat} {s : ByteArray} (h5 : w.cell? a5 = some (.pointer (some ⟨G, 0, none⟩))) (hG : RD w G s) (hs : s.size ≤ 1073741824) (ho : tableP s = none) :
    Calls Tryd.prog 37 #[.pointer (some a5), .pointer (some a6)] w fun e w' => e = StopE ∧ w.grownBy w' (some G) := by
  have hT := rdTable_c hG hs
  rw [ho] at hT
  have HT := Lib.hid hT
  clear hT ho hG
  go_enter Tryd.func37, Tryd.ntmps37
  go_wp2_with fail
  refine (HT.out).mono ?_
  rintro e w1 ⟨g1, rfl⟩
  go_wp2_with fail
  exact ⟨rfl, rfl, g1⟩

/-- What Take leaves. -/
def TakePost (w : World) (s : ByteArray) (e : Ending) (w' : World) : Prop :=
  Below w.heap.size w w' ∧ match tableP s with
    | some (ps, r) => ∃ v, e = .returned (.tuple #[v, .int .i64 ((s.size : Int) - r.size), .int .i64 0]) ∧ OwnP w' w.heap.size v ps
    | none => e = .returned (.tuple #[.slice none 0 0, .int .i64 0, .int .i64 11])
theorem take_none {w w' : World} {s : ByteArray} (ho : tableP s = none) (hb : Below w.heap.size w w') : TakePost w s (.returned (.tuple #[.slice none 0 0, .int .i64 0, .int .i64 11])) w' := by
  unfold TakePost
  rw [ho]
  exact ⟨hb, rfl⟩
theorem take_some {w w' : World} {s r : ByteArray} {ps : List Prp} {v : Value} (ho : tableP s = some (ps, r)) (hb : Below w.heap.size w w') (hv : OwnP w' w.heap.size v ps) : TakePost w s (.returned (.tuple #[v, .int .i64 ((s.size : Int) - r.size), .int .i64 0])) w' := by
  unfold TakePost
  rw [ho]
  exact ⟨hb, v, rfl, hv⟩
theorem tableP_size {s r : ByteArray} {ps : List Prp} (h : tableP s = some (ps, r)) : r.size ≤ s.size := by
  unfold tableP at h
  obtain ⟨p, h1, h2⟩ := Option.bind_eq_some_iff.1 h
  obtain ⟨x, y⟩ := p
  obtain ⟨l, _, h3⟩ := Option.map_eq_some_iff.1 h2
  injection h3 with _ h3
  have := longP_size h1
  dsimp only at h3
  rw [← h3]
  omega

theorem ownP_set {w : World} {B n : Nat} {v : Value} {ps : List Prp} (h : OwnP w B v ps) (hn : n < B) (j : Nat) (u : Value) : OwnP (w.setCell ⟨n, j, none⟩ u) B v ps := by
  rcases h with h | ⟨g, cap, a, b, c, d, e, f⟩
  · exact .inl h
  · have hb := Below.heap_setCell w ⟨n, j, none⟩ u g (show g ≠ n by omega)
    refine .inr ⟨g, cap, a, b, by simpa [World.setCell] using c, d, e, fun k hk => ?_⟩
    obtain ⟨x, y⟩ := f k hk
    exact ⟨(World.cell?_of_block (w := w) hb).trans x, (World.frozen?_of_block (w := w) hb).trans y⟩
/-- Three blocks, laid one behind the other. -/
theorem three_blocks (w : World) (a b c : Obj) : ((((w.alloc a).alloc b).alloc c).heap[w.heap.size]? = some a) ∧ ((((w.alloc a).alloc b).alloc c).heap[w.heap.size + 1]? = some b) ∧ ((((w.alloc a).alloc b).alloc c).heap[w.heap.size + 1 + 1]? = some c) ∧ (((w.alloc a).alloc b).alloc c).heap.size = w.heap.size + 3 := by
  have s1 : (w.alloc a).heap.size = w.heap.size + 1 := Array.size_push _
  have s2 : ((w.alloc a).alloc b).heap.size = w.heap.size + 1 + 1 := by rw [show ((w.alloc a).alloc b).heap.size = (w.alloc a).heap.size + 1 from Array.size_push _, s1]
  refine ⟨?_, ?_, ?_, ?_⟩
  · rw [heap_alloc_old _ _ (by omega), heap_alloc_old _ _ (by omega)]
    exact heap_alloc_new w a
  · rw [heap_alloc_old _ _ (by omega), ← s1]
    exact heap_alloc_new _ b
  · rw [← s2]
    exact heap_alloc_new _ c
  · rw [show (((w.alloc a).alloc b).alloc c).heap.size = ((w.alloc a).alloc b).heap.size + 1 from Array.size_push _, s2]

set_option maxRecDepth 1000000 in
set_option maxHeartbeats 4000000 in
theorem tTake_c {w : World} (s : ByteArray) (hs : s.size ≤ 1073741824) :
    Calls Tryd.prog 16 #[.string s] w (TakePost w s) := by
  have hmf : ∀ (fn : Fn) (first cap : Array Value) (w : World), (Instr.makeFunc fn first cap).run Tryd.prog w = .ok (.func fn first cap) w := fun _ _ _ _ => rfl
  have hsI : (s.size : Int) ≤ 1073741824 := by omega
  have hen : ∀ args w, (callFunc 37 args).run Tryd.prog w = .ok (.enter 37 args) w := fun args w => enters_of Tryd.func37 (by kernel_rfl) rfl args w
  obtain ⟨h0, h1, h2, h3⟩ := three_blocks w (.cells #[.string s] 68) (.cells #[.pointer (some ⟨w.heap.size, 0, none⟩)] 66) (.cells #[.slice none 0 0] 24)
  have hb : Below w.heap.size w (((w.alloc (.cells #[.string s] 68)).alloc (.cells #[.pointer (some ⟨w.heap.size, 0, none⟩)] 66)).alloc (.cells #[.slice none 0 0] 24)) := (((Below.refl _ _).alloc (Nat.le_refl _) _).alloc (by simp) _).alloc (by simp; omega) _
  obtain ⟨W3, hW3⟩ : ∃ W3, W3 = (((w.alloc (.cells #[.string s] 68)).alloc (.cells #[.pointer (some ⟨w.heap.size, 0, none⟩)] 66)).alloc (.cells #[.slice none 0 0] 24)) := ⟨_, rfl⟩
  rw [← hW3] at h0 h1 h2 h3 hb
  have hal : Below W3.heap.size W3 (W3.alloc (.cells #[.bool false] 4)) := below_al1 _ _
  have hok : (W3.alloc (.cells #[.bool false] 4)).heap[W3.heap.size]? = some (.cells #[.bool false] 4 (0, 0)) := heap_alloc_new W3 _
  have hs4 : (W3.alloc (.cells #[.bool false] 4)).heap.size = w.heap.size + 4 := by rw [show (W3.alloc (.cells #[.bool false] 4)).heap.size = W3.heap.size + 1 from Array.size_push _, h3]
  obtain ⟨W4, hW4⟩ : ∃ W4, W4 = W3.alloc (.cells #[.bool false] 4) := ⟨_, rfl⟩
  rw [← hW4] at hal hok hs4
  have g0 : RD W4 w.heap.size s := (hal.block w.heap.size (by omega)).trans h0
  have g1 : W4.heap[w.heap.size + 1]? = some (.cells #[.pointer (some ⟨w.heap.size, 0, none⟩)] 66 (0, 0)) := (hal.block _ (by omega)).trans h1
  have g2 : W4.heap[w.heap.size + 1 + 1]? = some (.cells #[.slice none 0 0] 24 (0, 0)) := (hal.block _ (by omega)).trans h2
  have c5 : W4.cell? ⟨w.heap.size + 1, 0, none⟩ = some (.pointer (some ⟨w.heap.size, 0, none⟩)) := by simp [World.cell?, g1]
  have c6 : W4.cell? ⟨w.heap.size + 1 + 1, 0, none⟩ = some (.slice none 0 0) := by simp [World.cell?, g2]
  have f6 : W4.frozen? ⟨w.heap.size + 1 + 1, 0, none⟩ = false := by simp [World.frozen?, g2]
  have ck : W4.cell? ⟨W3.heap.size, 0, none⟩ = some (.bool false) := by simp [World.cell?, hok]
  have fk : W4.frozen? ⟨W3.heap.size, 0, none⟩ = false := by simp [World.frozen?, hok]
  have hb4 := hb.trans (hal.mono (by omega))
  cases ho : tableP s with
  | none =>
    have hg := guard_no (cap := #[.pointer (some ⟨w.heap.size + 1, 0, none⟩), .pointer (some ⟨w.heap.size + 1 + 1, 0, none⟩)]) (w := W3) (R := fun w' => W4.grownBy w' (some w.heap.size)) hen (by
      rw [← hW4]
      refine (take1_no (a6 := ⟨w.heap.size + 1 + 1, 0, none⟩) c5 g0 hs ho).mono ?_
      rintro e w' ⟨rfl, hgr⟩
      have hbk := hgr.block W3.heap.size (by omega) (fun e => by injection e with e; omega)
      exact ⟨rfl, hgr, (World.cell?_of_block (w := W4) hbk).trans ck, (World.frozen?_of_block (w := W4) hbk).trans fk⟩)
    have HG := Lib.hid hg
    have HB4 := Lib.hid hb4
    have HS4 := Lib.hid hs4
    have HS3 := Lib.hid h3
    have HO := Lib.hid ho
    rw [hW3] at HG
    clear h0 h1 h2 h3 hb hal hok hs4 hW3 hW4 g0 g1 g2 c5 c6 f6 ck fk hb4 hg ho
    go_enter Tryd.func16, Tryd.ntmps16
    go_wp2_with fail
    refine (HG.out).mono ?_
    rintro e w' ⟨rfl, w1, hgr, hw'⟩
    have hB : Below w.heap.size w w' := by
      rw [hw']
      have b1 := below_grown HB4.out hgr (Nat.le_refl _) (by have := HS4.out; omega)
      exact below_set (b1.alloc b1.size _) (by simp; omega) 0 _
    clear hgr hw'
    go_wp2_with fail
    go_ret3
    exact take_none HO.out hB
  | some p =>
    obtain ⟨ps, r⟩ := p
    have hrs := tableP_size ho
    have hg := guard_yes (cap := #[.pointer (some ⟨w.heap.size + 1, 0, none⟩), .pointer (some ⟨w.heap.size + 1 + 1, 0, none⟩)]) (w := W3) (R := fun w' => ∃ v w1, W4.grownBy w1 (some w.heap.size) ∧ OwnP w1 W4.heap.size v ps ∧ RD w1 w.heap.size r ∧ w' = w1.setCell ⟨w.heap.size + 1 + 1, 0, none⟩ v) hen (by
      rw [← hW4]
      refine (take1_yes (a6 := ⟨w.heap.size + 1 + 1, 0, none⟩) c5 g0 hs c6 f6 (show w.heap.size + 1 + 1 ≠ w.heap.size by omega) ho).mono ?_
      rintro e w' ⟨rfl, v, w1, hgr, hv, hr, rfl⟩
      have hbk := (Below.heap_setCell w1 ⟨w.heap.size + 1 + 1, 0, none⟩ v W3.heap.size (show W3.heap.size ≠ w.heap.size + 1 + 1 by omega)).trans (hgr.block W3.heap.size (by omega) (fun e => by injection e with e; omega))
      exact ⟨rfl, ⟨v, w1, hgr, hv, hr, rfl⟩, (World.cell?_of_block (w := W4) hbk).trans ck, (World.frozen?_of_block (w := W4) hbk).trans fk⟩)
    have HG := Lib.hid hg
    have HB4 := Lib.hid hb4
    have HS4 := Lib.hid hs4
    have HS3 := Lib.hid h3
    have HO := Lib.hid ho
    have C5 := Lib.hid g1
    have C6 := Lib.hid g2
    have e1 : IntKind.i64.wrap ((s.size : Int) - (r.size : Int)) = (s.size : Int) - r.size := IntWalk.i64_in _ (by omega)
    rw [hW3] at HG
    clear h0 h1 h2 hb hal hok hW4 g0 g1 g2 c5 c6 f6 ck fk hb4 hg ho hs4 h3 hrs hW3
    go_enter Tryd.func16, Tryd.ntmps16
    go_wp2_with fail
    refine (HG.out).mono ?_
    rintro e w' ⟨rfl, w1', ⟨v, w1, hgr, hv, hr, rfl⟩, hw'⟩
    have hB : Below w.heap.size w w' := by
      rw [hw']
      have b1 := below_grown HB4.out hgr (Nat.le_refl _) (by have := HS4.out; omega)
      have h3 : w.heap.size ≤ (((w.alloc (.cells #[.string s] 68)).alloc (.cells #[.pointer (some ⟨w.heap.size, 0, none⟩)] 66)).alloc (.cells #[.slice none 0 0] 24)).heap.size := by rw [(three_blocks w _ _ _).2.2.2]; omega
      exact below_set (below_set b1 (by show w.heap.size ≤ w.heap.size + 1 + 1; omega) 0 _) h3 0 _
    have hok : (((w.alloc (.cells #[.string s] 68)).alloc (.cells #[.pointer (some ⟨w.heap.size, 0, none⟩)] 66)).alloc (.cells #[.slice none 0 0] 24)).heap.size = w.heap.size + 3 := (three_blocks w _ _ _).2.2.2
    rw [hok] at hw'
    have hgo := hgr.block
    have k5 : w1.heap[w.heap.size + 1]? = _ := (hgr.block (w.heap.size + 1) (by have := HS4.out; omega) (fun e => by injection e with e; omega)).trans C5.out
    have k6 : w1.heap[w.heap.size + 1 + 1]? = _ := (hgr.block (w.heap.size + 1 + 1) (by have := HS4.out; omega) (fun e => by injection e with e; omega)).trans C6.out
    have c5 : w'.cell? ⟨w.heap.size + 1, 0, none⟩ = some (.pointer (some ⟨w.heap.size, 0, none⟩)) := by
      rw [hw', World.cell?_setCell_other _ _ _ _ (by intro e; injection e with e; omega), World.cell?_setCell_other _ _ _ _ (by intro e; injection e with e; omega)]
      simp [World.cell?, k5]
    have c6 : w'.cell? ⟨w.heap.size + 1 + 1, 0, none⟩ = some v := by
      rw [hw', World.cell?_setCell_other _ _ _ _ (by intro e; injection e with e; omega)]
      exact World.cell?_setCell_same' _ _ _ (by simp [World.cell?, k6])
    have c0 : w'.cell? ⟨w.heap.size, 0, none⟩ = some (.string r) := by
      rw [hw', World.cell?_setCell_other _ _ _ _ (by intro e; injection e with e; omega), World.cell?_setCell_other _ _ _ _ (by intro e; injection e with e; omega)]
      exact (rd_facts hr).1
    have hV : OwnP w' w.heap.size v ps := by
      rw [hw']
      exact ownP_lower (ownP_set (ownP_set hv (by have := HS4.out; omega) 0 _) (by have := HS4.out; omega) 0 _) (by have := HS4.out; omega)
    have HB := Lib.hid hB
    have HV := Lib.hid hV
    clear hgr hv hr hw' hB hV hok hgo k5 k6
    rcases HV.out with ⟨rfl, _⟩ | ⟨g, cap, rfl, _⟩
    · go_wp2_with fail
      go_quiet (fail)
      go_wp2_with fail
      go_ret3
      exact take_some HO.out (HB.out.trans ((below_drewN _ _).mono HB.out.size)) (ownP_below HV.out (below_drewN _ _))
    · go_wp2_with fail
      go_quiet (fail)
      go_wp2_with fail
      go_ret3
      exact take_some HO.out (HB.out.trans ((below_drewN _ _).mono HB.out.size)) (ownP_below HV.out (below_drewN _ _))
end Go.Proofs.YteigbejidfkhpaaDoor

/- The reference's Take. -/
namespace Go.Proofs.YteigbejidfkhpaaDoor
open Go Go.RowKit
set_option linter.unusedSimpArgs false
set_option linter.unusedVariables false

theorem tableP_left {s r : ByteArray} {ps : List Prp} (h : tableP s = some (ps, r)) : r.size ≤ s.size := by
  unfold tableP at h
  obtain ⟨q, h1, h2⟩ := Option.bind_eq_some_iff.1 h
  obtain ⟨x, y⟩ := q
  obtain ⟨l, h3, h4⟩ := Option.map_eq_some_iff.1 h2
  injection h4 with h4 h5
  have := longP_size h1
  dsimp only at h5
  subst h5
  omega

set_option maxRecDepth 1000000 in
set_option maxHeartbeats 2000000 in
theorem refTake15_c {w : World} (s : ByteArray) (hs : s.size ≤ 1073741824) :
    Calls Tryd.prog 17 #[.string s] w (TakePost w s) := by
  have hb : Below w.heap.size w (w.alloc (.cells #[.string s, .bool false] 73)) := below_al1 _ _
  have hR : RX (w.alloc (.cells #[.string s, .bool false] 73)) w.heap.size (some s) := heap_alloc_new w _
  have HT := Lib.hid (refTable_c hR (fun s' h => by injection h with h; rw [← h]; exact hs))
  have HB := Lib.hid hb
  have hsI : (s.size : Int) ≤ 1073741824 := by omega
  clear hb hR hs
  rw [Option.bind_some] at HT
  cases ho : tableP s with
  | none =>
    have HO := Lib.hid ho
    rw [ho] at HT
    clear ho
    go_enter Tryd.func17, Tryd.ntmps17
    go_wp2_with fail
    refine (HT.out).mono ?_
    rintro e w1 ⟨v, rfl, hv, hr, g1⟩
    obtain ⟨s', hr⟩ := hr
    obtain ⟨d0, d1, d2, d3⟩ := rr_facts hr
    have BF := below_grown HB.out g1 (Nat.le_refl _) HB.out.size
    clear hr g1 hv
    go_wp2_with fail
    go_ret3
    exact take_none HO.out BF
  | some q =>
    obtain ⟨ps, r⟩ := q
    have HO := Lib.hid ho
    have hrs := tableP_left ho
    have hrI : (r.size : Int) ≤ s.size := by omega
    have hr0 : (0 : Int) ≤ r.size := by omega
    rw [ho] at HT
    clear ho hrs
    go_enter Tryd.func17, Tryd.ntmps17
    go_wp2_with fail
    refine (HT.out).mono ?_
    rintro e w1 ⟨v, rfl, hv, hr, g1⟩
    obtain ⟨d0, d1, d2, d3⟩ := rr_facts (show RR w1 w.heap.size r false from hr)
    have HV := Lib.hid hv
    have BF := Lib.hid (below_grown HB.out g1 (Nat.le_refl _) HB.out.size)
    clear hr g1 hv
    rcases HV.out with ⟨rfl, _⟩ | ⟨g, cap, rfl, _⟩
    · go_wp2_with fail
      go_quiet (fail)
      go_wp2_with fail
      go_ret3
      exact take_some HO.out (BF.out.trans ((below_drewN _ _).mono BF.out.size)) (ownP_below (ownP_lower HV.out HB.out.size) (below_drewN _ _))
    · go_wp2_with fail
      go_quiet (fail)
      go_wp2_with fail
      go_ret3
      exact take_some HO.out (BF.out.trans ((below_drewN _ _).mono BF.out.size)) (ownP_below (ownP_lower HV.out HB.out.size) (below_drewN _ _))
end Go.Proofs.YteigbejidfkhpaaDoor

/- The reference's Big: it keeps what is no byte. -/
namespace Go.Proofs.YteigbejidfkhpaaDoor
open Go Go.RowKit
set_option linter.unusedSimpArgs false
set_option linter.unusedVariables false

set_option maxRecDepth 100000 in
set_option maxHeartbeats 1000000 in
theorem refBigK_c {w : World} {base : Nat} {v : Value} {l : List UInt8} (h : OB w base v l) (hB : base ≤ w.heap.size) (hl : l.length ≤ 70368744177664) (n : Nat) (hn : n < 18446744073709551616) (k : Nat) (hk : k ≤ 8) :
    Calls Tryd.prog 20 #[v, .int .u64 n, .int .i64 k] w fun e w' => ∃ v', e = .returned v' ∧ OB w' base v' (l ++ beB n k) ∧ Below base w w' ∧ KeepsT w w' := by
  have H := Lib.hid h
  clear h
  go_enter Tryd.func20, Tryd.ntmps20
  go_wp2
  go_loopw [0, 7] (fun x i wr => ∃ (m r : Nat) (pre : List UInt8), m + r = k ∧ i = .int .i64 m ∧ Hid (pre ++ beB n r = beB n k) ∧ Hid (OB wr base x (l ++ pre)) ∧ Hid (KeepsT w wr) ∧ Below base w wr) (fun _ i _ => k - (intOf i).toNat)
  case atStart => exact ⟨0, k, [], by omega, rfl, Lib.hid rfl, by simpa [Lib.hid] using H, Lib.hid (KeepsT.refl _), Below.refl _ _⟩
  case round =>
    obtain ⟨m, r, pre, hr, rfl, HP, O2, HK, b2⟩ := hrel
    cases r with
    | zero =>
      have hm : k ≤ m := by omega
      have hm2 : m ≤ k := by omega
      clear hr
      go_wp2
      go_ret
      have := HP.out
      simp only [beB, List.append_nil] at this
      exact ⟨_, rfl, by rw [← this]; exact O2.out, b2, HK.out⟩
    | succ r =>
      have hm : m < k := by omega
      have hpl : pre.length ≤ 8 := by
        have := congrArg List.length HP.out
        rw [List.length_append, beB_len, beB_len] at this
        omega
      have hs1 : (k : Int) - 1 - (m : Int) = (r : Int) := by omega
      clear hr
      go_wp2_with (at_builtin; refine app_b (w0 := w) (base := base) (l := l ++ pre) (m := [dig n r]) rfl (.tmp 13) (.tmp 23) rfl rfl rfl (O2.out.alloc _) (rb_dig wr _ _ (dig_val n r)) (b2.alloc (by have := b2.size; omega) _) (by have := b2.size; simp; omega) (by simp; omega) ?_; intro v4 w4 o4 b4 g4 _; have HK4 := Lib.hid ((HK.out.trans (keeps_alloc _ _)).trans (keeps_grown (O2.out.alloc _) g4)); have O4 := Lib.hid o4; clear o4 g4)
      go_roundw
      case rel => exact ⟨m + 1, r, pre ++ [dig n r], by omega, by go_num, Lib.hid (by have := HP.out; simpa [beB] using this), Lib.hid (by have := O4.out; rwa [List.append_assoc] at this), HK4, b4⟩
      case measure => simp [intOf]; omega


theorem refBigK_c2 {w : World} {base : Nat} {v : Value} {l : List UInt8} (h : OB w base v l) (hB : base ≤ w.heap.size) (hl : l.length ≤ 70368744177664) (n k : Nat) (hn : n < 18446744073709551616) (hk : k ≤ 8) (ni ki : Int) (hni : ni = (n : Int)) (hki : ki = (k : Int)) :
    Calls Tryd.prog 20 #[v, .int .u64 ni, .int .i64 ki] w fun e w' => ∃ v', e = .returned v' ∧ OB w' base v' (l ++ beB n k) ∧ Below base w w' ∧ KeepsT w w' := by
  subst hni hki
  exact refBigK_c h hB hl n hn k hk
end Go.Proofs.YteigbejidfkhpaaDoor

/- The reference's Narrow, the plain law: the 32 bits, by a float's own bits. -/
namespace Go.Proofs.YteigbejidfkhpaaDoor.FloatL
open Ieee
set_option linter.unusedSimpArgs false
set_option linter.unusedVariables false

theorem widen_word {s : Bool} {m : Nat} {e : Int} (hm0 : m ≠ 0) (hm : m < 2 ^ 24) (he0 : -149 ≤ e) (he1 : e ≤ 104) :
    double.write (.number s m e) = double.word s ((e + m.log2 + 1022).toNat * 2 ^ 52 + m * 2 ^ (52 - m.log2)) := by
  obtain ⟨l, hl⟩ : ∃ l, l = m.log2 := ⟨_, rfl⟩
  have h1 : 2 ^ l ≤ m := by rw [hl]; exact Nat.log2_self_le hm0
  have h2 : m < 2 ^ (l + 1) := by rw [hl]; exact Nat.lt_log2_self
  have hl23 : l ≤ 23 := by
    have := (Nat.log2_lt hm0).2 hm
    omega
  rw [← hl]
  have hM0 : 2 ^ 52 ≤ m * 2 ^ (52 - l) := by
    have : 2 ^ l * 2 ^ (52 - l) = 2 ^ 52 := by rw [← Nat.pow_add]; congr 1; omega
    rw [← this]
    exact Nat.mul_le_mul_right _ h1
  have hM1 : m * 2 ^ (52 - l) < 2 ^ 53 := by
    have : 2 ^ (l + 1) * 2 ^ (52 - l) = 2 ^ 53 := by rw [← Nat.pow_add]; congr 1; omega
    rw [← this]
    exact Nat.mul_lt_mul_of_pos_right h2 (Nat.pow_pos (by decide))
  show double.nearest s m e = _
  unfold Format.nearest
  rw [if_neg hm0, ← hl, D_least]
  dsimp only
  rw [show (double.fractionBits : Int) = 52 from rfl, show max (e + (l : Int) - 52) (-1074) = e + l - 52 by omega, show (e - (e + (l : Int) - 52)).toNat = 52 - l by omega, show (e + (l : Int) - 52 - e).toNat = 0 by omega, shl]
  have hcut : Toward.even.cut s (m * 2 ^ (52 - l)) 0 = m * 2 ^ (52 - l) := by
    unfold Toward.cut
    simp [Nat.mod_one]
  rw [hcut, D_bin, D_inf]
  obtain ⟨K, hK⟩ : ∃ K : Nat, (e + (l : Int) - 52 - -1074).toNat = K := ⟨_, rfl⟩
  rw [hK]
  have hK1 : 873 ≤ K := by omega
  have hK2 : K ≤ 1149 := by omega
  have hKe : e + (l : Int) - 52 = (K : Int) - 1074 := by omega
  generalize m * 2 ^ (52 - l) = M at *
  rw [Nat.min_eq_left (by omega), show (e + (l : Int) + 1022).toNat = K by omega]
theorem narrow_word {s : Bool} {m : Nat} {e : Int} (hm0 : m ≠ 0) (hm : m < 2 ^ 24) (he0 : -149 ≤ e) (he1 : e ≤ 104) (hn : 2 ^ 23 ≤ m ∨ e = -149) :
    single.write (.number s (m * 2 ^ (52 - m.log2)) (e + m.log2 - 52)) = single.word s ((e + 149).toNat * 2 ^ 23 + m) := by
  obtain ⟨l, hl⟩ : ∃ l, l = m.log2 := ⟨_, rfl⟩
  have h1 : 2 ^ l ≤ m := by rw [hl]; exact Nat.log2_self_le hm0
  have h2 : m < 2 ^ (l + 1) := by rw [hl]; exact Nat.lt_log2_self
  have hl23 : l ≤ 23 := by
    have := (Nat.log2_lt hm0).2 hm
    omega
  have hl23' : 2 ^ 23 ≤ m → l = 23 := fun h => by rw [hl]; exact log2_eq h hm
  rw [← hl]
  have hM0 : 2 ^ 52 ≤ m * 2 ^ (52 - l) := by
    have : 2 ^ l * 2 ^ (52 - l) = 2 ^ 52 := by rw [← Nat.pow_add]; congr 1; omega
    rw [← this]
    exact Nat.mul_le_mul_right _ h1
  have hM1 : m * 2 ^ (52 - l) < 2 ^ 53 := by
    have : 2 ^ (l + 1) * 2 ^ (52 - l) = 2 ^ 53 := by rw [← Nat.pow_add]; congr 1; omega
    rw [← this]
    exact Nat.mul_lt_mul_of_pos_right h2 (Nat.pow_pos (by decide))
  have hlog : (m * 2 ^ (52 - l)).log2 = 52 := log2_eq hM0 hM1
  have hMne : m * 2 ^ (52 - l) ≠ 0 := by omega
  show single.nearest s (m * 2 ^ (52 - l)) (e + l - 52) = _
  unfold Format.nearest
  rw [if_neg hMne, hlog, S_least]
  dsimp only
  have hmax : max (e + (l : Int) - 52 + ((52 : Nat) : Int) - ((single.fractionBits : Nat) : Int)) (-149) = e := by
    rw [show ((single.fractionBits : Nat) : Int) = 23 from rfl]
    rcases hn with h | h
    · rw [hl23' h]; omega
    · omega
  rw [hmax, show (e + (l : Int) - 52 - e).toNat = 0 by omega, shl, Nat.pow_zero, Nat.mul_one, show (e - (e + (l : Int) - 52)).toNat = 52 - l by omega]
  have hcut : Toward.even.cut s (m * 2 ^ (52 - l)) (52 - l) = m := by
    unfold Toward.cut
    dsimp only
    rw [hlog, Nat.min_eq_left (by omega), shl, Nat.one_mul]
    have hp : 0 < 2 ^ (52 - l) := Nat.pow_pos (by decide)
    rw [Nat.mul_div_cancel _ hp, Nat.mul_mod_left]
    simp
  rw [hcut, S_bin, S_inf]
  obtain ⟨K, hK⟩ : ∃ K : Nat, (e - -149).toNat = K := ⟨_, rfl⟩
  rw [hK]
  have hK2 : K ≤ 253 := by omega
  rw [Nat.min_eq_left (by omega), show (e + 149).toNat = K by omega]
theorem single_word_read {s : Bool} {m : Nat} {e : Int} (hm : m < 2 ^ 24) (he0 : -149 ≤ e) (he1 : e ≤ 104) (hn : 2 ^ 23 ≤ m ∨ e = -149) :
    single.read (single.word s ((e + 149).toNat * 2 ^ 23 + m)) = .number s m e := by
  obtain ⟨K, hK⟩ : ∃ K : Nat, (e + 149).toNat = K := ⟨_, rfl⟩
  rw [hK]
  have hK2 : K ≤ 253 := by omega
  have hKe : e = (K : Int) - 149 := by omega
  obtain ⟨r1, r2⟩ := read_word (f := single) (by decide) s (K * 2 ^ 23 + m) (by rw [S_sgn]; omega)
  unfold Format.read
  dsimp only
  rw [r1, r2, S_bin, S_inf, S_least]
  have hs : (s.toNat == 1) = s := by cases s <;> rfl
  rw [hs]
  by_cases h : 2 ^ 23 ≤ m
  · rw [if_neg (by omega), if_pos (by omega), show (K * 2 ^ 23 + m) / 2 ^ 23 - 1 = K by omega, show 2 ^ 23 + (K * 2 ^ 23 + m) % 2 ^ 23 = m by omega, hKe]
    congr 1 <;> omega
  · have hK0 : K = 0 := by omega
    subst hK0
    rw [if_pos (by omega), Nat.zero_mul, Nat.zero_add, hKe]
    rfl
end Go.Proofs.YteigbejidfkhpaaDoor.FloatL
namespace Go.Proofs.YteigbejidfkhpaaDoor
open Go Go.RowKit Ieee FloatL

theorem word_d (s : Bool) (r : Nat) : Ieee.double.word s r = s.toNat * 2 ^ 63 + r := by
  unfold Format.word
  rw [D_sgn]
  cases s <;> simp
theorem word_s (s : Bool) (r : Nat) : Ieee.single.word s r = s.toNat * 2 ^ 31 + r := by
  unfold Format.word
  rw [S_sgn]
  cases s <;> simp
theorem nar_hit {s : Bool} {m : Nat} {e : Int} (hm0 : m ≠ 0) (hm : m < 2 ^ 24) (he0 : -149 ≤ e) (he1 : e ≤ 104) (hn : 2 ^ 23 ≤ m ∨ e = -149) :
    narB (Ieee.double.write (.number s m e)) = some (Ieee.single.word s ((e + 149).toNat * 2 ^ 23 + m)) := by
  have hrd := widen_read (s := s) hm0 hm he0 he1
  have hw := narrow_word (s := s) hm0 hm he0 he1 hn
  have hsr := single_word_read (s := s) hm he0 he1 hn
  have ho : Ieee.double.order (Ieee.double.write (.number s m e)) (Ieee.double.write (.number s m e)) = some .eq := by
    unfold Format.order
    rw [hrd]
    simp [Ieee.Datum.order]
  have hnn : nanB (Ieee.double.write (.number s m e)) = false := by
    unfold nanB
    rw [show FloatKind.f64.format.order _ _ = some .eq from ho]
    rfl
  have hv : widenE (Ieee.single.word s ((e + 149).toNat * 2 ^ 23 + m)) = some (Ieee.double.write (.number s m e)) := by
    unfold widenE
    rw [hsr]
  rw [narB_some hnn hrd (by rw [hw, hsr]; rfl) (by rw [hw]; exact hv), if_pos ho, hw]
/-- The reference's answer, of a float that is no NaN: sign, exponent, fraction. -/
def refN (g x f : Nat) : Option Nat :=
  if x = 2047 then some (g * 2 ^ 31 + 2139095040)
  else if x = 0 ∧ f = 0 then some (g * 2 ^ 31)
  else if (897 ≤ x ∧ x ≤ 1150) ∧ f % 2 ^ 29 = 0 then some (g * 2 ^ 31 + (x - 896) * 2 ^ 23 + f / 2 ^ 29)
  else if (x < 897 ∧ 874 ≤ x) ∧ (f + 2 ^ 52) % 2 ^ (926 - x) = 0 then some (g * 2 ^ 31 + (f + 2 ^ 52) / 2 ^ (926 - x))
  else none
theorem nar_one {g x f : Nat} (hg : g < 2) (h0 : 897 ≤ x) (h1 : x ≤ 1150) (hf : f < 2 ^ 52) (hd : f % 2 ^ 29 = 0) : narB (g * 2 ^ 63 + x * 2 ^ 52 + f) = some (g * 2 ^ 31 + (x - 896) * 2 ^ 23 + f / 2 ^ 29) := by
  obtain ⟨s, hs⟩ : ∃ s : Bool, g = s.toNat := ⟨g == 1, by rcases (show g = 0 ∨ g = 1 by omega) with rfl | rfl <;> rfl⟩
  obtain ⟨q, hq⟩ : ∃ q, f = q * 2 ^ 29 := ⟨f / 2 ^ 29, by omega⟩
  have hq2 : q < 2 ^ 23 := by omega
  have hl : (2 ^ 23 + q).log2 = 23 := log2_eq (by omega) (by omega)
  have h := nar_hit (s := s) (m := 2 ^ 23 + q) (e := (x : Int) - 1046) (by omega) (by omega) (by omega) (by omega) (.inl (by omega))
  rw [widen_word (by omega) (by omega) (by omega) (by omega), hl, word_d, word_s] at h
  rw [show ((x : Int) - 1046 + ((23 : Nat) : Int) + 1022).toNat = x - 1 by omega, show ((x : Int) - 1046 + 149).toNat = x - 897 by omega, show (52 - 23 : Nat) = 29 from rfl] at h
  rw [show g * 2 ^ 63 + x * 2 ^ 52 + f = s.toNat * 2 ^ 63 + ((x - 1) * 2 ^ 52 + (2 ^ 23 + q) * 2 ^ 29) by rw [hs]; omega, h]
  exact congrArg some (by rw [hs]; omega)
theorem nar_two {g x f : Nat} (hg : g < 2) (h0 : 874 ≤ x) (h1 : x < 897) (hf : f < 2 ^ 52) (hd : (f + 2 ^ 52) % 2 ^ (926 - x) = 0) : narB (g * 2 ^ 63 + x * 2 ^ 52 + f) = some (g * 2 ^ 31 + (f + 2 ^ 52) / 2 ^ (926 - x)) := by
  obtain ⟨s, hs⟩ : ∃ s : Bool, g = s.toNat := ⟨g == 1, by rcases (show g = 0 ∨ g = 1 by omega) with rfl | rfl <;> rfl⟩
  obtain ⟨l, rfl⟩ : ∃ l, x = l + 874 := ⟨x - 874, by omega⟩
  have hl22 : l ≤ 22 := by omega
  rw [show 926 - (l + 874) = 52 - l by omega] at hd ⊢
  obtain ⟨q, hq⟩ : ∃ q, q = (f + 2 ^ 52) / 2 ^ (52 - l) := ⟨_, rfl⟩
  have hqm : q * 2 ^ (52 - l) = f + 2 ^ 52 := by rw [hq]; have := Nat.div_add_mod (f + 2 ^ 52) (2 ^ (52 - l)); rw [hd, Nat.add_zero, Nat.mul_comm] at this; exact this
  have hp : 2 ^ l * 2 ^ (52 - l) = 2 ^ 52 := by rw [← Nat.pow_add]; congr 1; omega
  have hp2 : 2 ^ (l + 1) * 2 ^ (52 - l) = 2 ^ 53 := by rw [← Nat.pow_add]; congr 1; omega
  have hpos : 0 < 2 ^ (52 - l) := Nat.two_pow_pos _
  have hq0 : 2 ^ l ≤ q := Nat.le_of_mul_le_mul_right (by rw [hp, hqm]; omega) hpos
  have hq1 : q < 2 ^ (l + 1) := Nat.lt_of_mul_lt_mul_right (a := 2 ^ (52 - l)) (by rw [hp2, hqm]; omega)
  have hlog : q.log2 = l := log2_eq hq0 hq1
  have hq24 : q < 2 ^ 23 := Nat.lt_of_lt_of_le hq1 (Nat.pow_le_pow_right (by omega) (by omega))
  have hqn : q ≠ 0 := by have := Nat.two_pow_pos l; omega
  have h := nar_hit (s := s) (m := q) (e := -149) hqn (by omega) (by omega) (by omega) (.inr rfl)
  rw [widen_word hqn (by omega) (by omega) (by omega), hlog, word_d, word_s, hqm] at h
  rw [show ((-149 : Int) + (l : Int) + 1022).toNat = l + 873 by omega, show ((-149 : Int) + 149).toNat = 0 from rfl] at h
  rw [show g * 2 ^ 63 + (l + 874) * 2 ^ 52 + f = s.toNat * 2 ^ 63 + ((l + 873) * 2 ^ 52 + (f + 2 ^ 52)) by rw [hs]; omega, h, ← hq]
  exact congrArg some (by rw [hs]; omega)
end Go.Proofs.YteigbejidfkhpaaDoor

/- The reference's Narrow, the plain law: the same as the program's. -/
namespace Go.Proofs.YteigbejidfkhpaaDoor
open Go Go.RowKit Ieee FloatL
set_option linter.unusedSimpArgs false
set_option linter.unusedVariables false

theorem nar_none {r n : Nat} (hr : r < 2 ^ 64) (hn : nanB r = false) (h : narB r = some n) {g x f : Nat} (hg : g < 2) (hx : x < 2048) (hf : f < 2 ^ 52) (hgr : r = g * 2 ^ 63 + x * 2 ^ 52 + f)
    (h1 : x ≠ 2047) (h2 : ¬ (x = 0 ∧ f = 0)) (h3 : ¬ ((897 ≤ x ∧ x ≤ 1150) ∧ f % 2 ^ 29 = 0)) (h4 : ¬ ((x < 897 ∧ 874 ≤ x) ∧ (f + 2 ^ 52) % 2 ^ (926 - x) = 0)) : False := by
  obtain ⟨v, hv, ho, hvl⟩ := narB_spec hn h
  rcases order_eq hvl hr ho with ⟨_, hz⟩ | hv2
  · omega
  · subst hv2
    unfold widenE at hv
    cases hrd : Ieee.single.read n with
    | nan s t => rw [hrd] at hv; cases hv
    | infinity s =>
      rw [hrd] at hv
      have hv' : Ieee.double.write (.infinity s) = v := Option.some.inj hv
      have : Ieee.double.write (.infinity s) = s.toNat * 2 ^ 63 + 2047 * 2 ^ 52 := by cases s <;> decide
      have hs : s.toNat < 2 := Bool.toNat_lt s
      omega
    | number s m e =>
      rw [hrd] at hv
      have hv' : Ieee.double.write (.number s m e) = v := Option.some.inj hv
      have hs : s.toNat < 2 := Bool.toNat_lt s
      have ff := S_fin hrd
      have hm : m < 2 ^ 24 := ff.mag
      have he0 : -149 ≤ e := by have := ff.low; rwa [S_least] at this
      have hno : 2 ^ 23 ≤ m ∨ e = -149 := by have := ff.norm; rwa [S_least] at this
      have he1 : e ≤ 104 := by
        have k1 := ff.rung
        have k2 := ff.top
        rw [k1, S_inf, S_bin, S_least] at k2
        rcases hno with k | k
        · omega
        · omega
      by_cases hm0 : m = 0
      · subst hm0
        have : Ieee.double.write (.number s 0 e) = s.toNat * 2 ^ 63 := by
          show Ieee.double.word s 0 = _
          rw [word_d]
          omega
        omega
      · have hw := widen_word (s := s) hm0 hm he0 he1
        rw [hv', word_d] at hw
        obtain ⟨l, hl⟩ : ∃ l, l = m.log2 := ⟨_, rfl⟩
        have g1 : 2 ^ l ≤ m := by rw [hl]; exact Nat.log2_self_le hm0
        have g2 : m < 2 ^ (l + 1) := by rw [hl]; exact Nat.lt_log2_self
        rw [← hl] at hw
        by_cases hb : 2 ^ 23 ≤ m
        · have hl23 : l = 23 := by rw [hl]; exact log2_eq hb hm
          subst hl23
          obtain ⟨K, hK⟩ : ∃ K : Nat, (e + ((23 : Nat) : Int) + 1022).toNat = K := ⟨_, rfl⟩
          rw [hK, show (52 - 23 : Nat) = 29 from rfl] at hw
          have hK0 : 896 ≤ K := by omega
          have hK1 : K ≤ 1149 := by omega
          exact h3 ⟨by omega, by omega⟩
        · have he : e = -149 := by omega
          have hl22 : l ≤ 22 := by
            have := (Nat.log2_lt hm0).2 (show m < 2 ^ 23 by omega)
            omega
          rw [he, show ((-149 : Int) + (l : Int) + 1022).toNat = l + 873 by omega] at hw
          have hp : 2 ^ l * 2 ^ (52 - l) = 2 ^ 52 := by rw [← Nat.pow_add]; congr 1; omega
          have hp2 : 2 ^ (l + 1) * 2 ^ (52 - l) = 2 ^ 53 := by rw [← Nat.pow_add]; congr 1; omega
          have hM0 : 2 ^ 52 ≤ m * 2 ^ (52 - l) := by rw [← hp]; exact Nat.mul_le_mul_right _ g1
          have hM1 : m * 2 ^ (52 - l) < 2 ^ 53 := by rw [← hp2]; exact Nat.mul_lt_mul_of_pos_right g2 (Nat.two_pow_pos _)
          have hMm : m * 2 ^ (52 - l) % 2 ^ (52 - l) = 0 := Nat.mul_mod_left _ _
          generalize hMM : m * 2 ^ (52 - l) = M at hw hM0 hM1 hMm
          have hx2 : x = l + 874 := by omega
          have hf2 : f + 2 ^ 52 = M := by omega
          refine h4 ⟨by omega, ?_⟩
          rw [hf2, hx2, show 926 - (l + 874) = 52 - l by omega]
          exact hMm
theorem narB_ref {r : Nat} (hr : r < 2 ^ 64) (hn : nanB r = false) : narB r = refN (r / 2 ^ 63) (r / 2 ^ 52 % 2048) (r % 2 ^ 52) := by
  have hb := nan_bits r
  rw [hn] at hb
  obtain ⟨g, hg⟩ : ∃ g, g = r / 2 ^ 63 := ⟨_, rfl⟩
  obtain ⟨x, hx⟩ : ∃ x, x = r / 2 ^ 52 % 2048 := ⟨_, rfl⟩
  obtain ⟨f, hf⟩ : ∃ f, f = r % 2 ^ 52 := ⟨_, rfl⟩
  rw [← hx, ← hf] at hb
  rw [← hg, ← hx, ← hf]
  have g2 : g < 2 := by omega
  have x2 : x < 2048 := by omega
  have f2 : f < 2 ^ 52 := by omega
  have hgr : r = g * 2 ^ 63 + x * 2 ^ 52 + f := by omega
  clear hg hx hf
  unfold refN
  by_cases h1 : x = 2047
  · rw [if_pos h1]
    subst h1
    have f0 : f = 0 := by
      rw [decide_eq_true rfl, Bool.true_and] at hb
      have := of_decide_eq_false hb.symm
      omega
    subst f0
    rcases (show g = 0 ∨ g = 1 by omega) with rfl | rfl
    · subst hgr; decide +kernel
    · subst hgr; decide +kernel
  · rw [if_neg h1]
    by_cases h2 : x = 0 ∧ f = 0
    · rw [if_pos h2]
      obtain ⟨rfl, rfl⟩ := h2
      rcases (show g = 0 ∨ g = 1 by omega) with rfl | rfl
      · subst hgr; decide +kernel
      · subst hgr; decide +kernel
    · rw [if_neg h2]
      by_cases h3 : (897 ≤ x ∧ x ≤ 1150) ∧ f % 2 ^ 29 = 0
      · rw [if_pos h3, hgr]
        exact nar_one g2 h3.1.1 h3.1.2 f2 h3.2
      · rw [if_neg h3]
        by_cases h4 : (x < 897 ∧ 874 ≤ x) ∧ (f + 2 ^ 52) % 2 ^ (926 - x) = 0
        · rw [if_pos h4, hgr]
          exact nar_two g2 h4.1.2 h4.1.1 f2 h4.2
        · rw [if_neg h4]
          cases hq : narB r with
          | none => rfl
          | some n => exact (nar_none hr hn hq g2 x2 f2 hgr h1 h2 h3 h4).elim
end Go.Proofs.YteigbejidfkhpaaDoor

/- The reference's Narrow: its walk. -/
namespace Go.Proofs.YteigbejidfkhpaaDoor
open Go Go.RowKit
set_option linter.unusedSimpArgs false
set_option linter.unusedVariables false

def nrV : Option Nat → Value
  | some n => .tuple #[.int .u32 n, .bool true]
  | none => .tuple #[.int .u32 0, .bool false]
/-- 'or' of numbers whose bits stand apart. -/
theorem or_apart32 (a b k : Nat) (hb : b < 2 ^ k) (hs : a * 2 ^ k + b < 4294967296) : bits BinOp.or IntKind.u32 ((a * 2 ^ k : Nat) : Int) (b : Int) = ((a * 2 ^ k + b : Nat) : Int) := by
  have e32 : IntKind.u32.bits = 32 := rfl
  have h3 : (a * 2 ^ k) ||| b = a * 2 ^ k + b := by
    have := Nat.shiftLeft_add_eq_or_of_lt hb a
    rw [Nat.shiftLeft_eq] at this
    exact this.symm
  have hm : (BitVec.ofInt IntKind.u32.bits ((a * 2 ^ k : Nat) : Int) ||| BitVec.ofInt IntKind.u32.bits (b : Int)).toNat = a * 2 ^ k + b := by
    rw [BitVec.toNat_or, BitVec.ofInt_natCast, BitVec.ofInt_natCast, BitVec.toNat_ofNat, BitVec.toNat_ofNat, e32, Nat.mod_eq_of_lt (by omega), Nat.mod_eq_of_lt (by omega), h3]
  show IntKind.u32.wrap (((BitVec.ofInt IntKind.u32.bits ((a * 2 ^ k : Nat) : Int) ||| BitVec.ofInt IntKind.u32.bits (b : Int)).toNat : Nat) : Int) = _
  rw [hm]
  show ((a * 2 ^ k + b : Nat) : Int) % 4294967296 = _
  omega
theorem or_apart64 (a b k : Nat) (hb : b < 2 ^ k) (hs : a * 2 ^ k + b < 18446744073709551616) : bits BinOp.or IntKind.u64 (b : Int) ((a * 2 ^ k : Nat) : Int) = ((a * 2 ^ k + b : Nat) : Int) := by
  have e64 : IntKind.u64.bits = 64 := rfl
  have h3 : b ||| (a * 2 ^ k) = a * 2 ^ k + b := by
    have := Nat.shiftLeft_add_eq_or_of_lt hb a
    rw [Nat.shiftLeft_eq] at this
    rw [Nat.or_comm]
    exact this.symm
  have hm : (BitVec.ofInt IntKind.u64.bits (b : Int) ||| BitVec.ofInt IntKind.u64.bits ((a * 2 ^ k : Nat) : Int)).toNat = a * 2 ^ k + b := by
    rw [BitVec.toNat_or, BitVec.ofInt_natCast, BitVec.ofInt_natCast, BitVec.toNat_ofNat, BitVec.toNat_ofNat, e64, Nat.mod_eq_of_lt (by omega), Nat.mod_eq_of_lt (by omega), h3]
  show IntKind.u64.wrap (((BitVec.ofInt IntKind.u64.bits (b : Int) ||| BitVec.ofInt IntKind.u64.bits ((a * 2 ^ k : Nat) : Int)).toNat : Nat) : Int) = _
  rw [hm]
  show ((a * 2 ^ k + b : Nat) : Int) % 18446744073709551616 = _
  omega
set_option maxRecDepth 100000 in
set_option maxHeartbeats 1000000 in
theorem rnX_nan {w : World} (r : Nat) (hr : r < 18446744073709551616) (hn : nanB r = true) :
    Calls Tryd.prog 34 #[.float .f64 r] w fun e w' => e = .returned (nrV (narB r)) ∧ w = w' := by
  have h := isNaN_c (w := w) r hr
  rw [hn] at h
  have e : narB r = some 2143289344 := by unfold narB; rw [if_pos hn]
  rw [e]
  clear e hn hr
  go_enter Tryd.func34, Tryd.ntmps34
  go_wp2_with fail
  refine h.mono ?_
  rintro e w1 ⟨rfl, rfl⟩
  go_wp2_with fail
  go_ret2
  exact ⟨rfl, rfl⟩
set_option maxRecDepth 100000 in
set_option maxHeartbeats 1000000 in
theorem rnX_inf {w : World} (r : Nat) (G S x f : Int) (h : Calls Tryd.prog 58 #[.float .f64 r] w fun e w' => e = .returned (.bool false) ∧ w = w')
    (eg : (r : Int) / 9223372036854775808 = G) (wg : IntKind.u32.wrap G = G) (es : IntKind.u32.wrap (G * 2147483648) = S) (ex : bits BinOp.and IntKind.u64 ((r : Int) / 4503599627370496) 2047 = x) (ef : bits BinOp.and IntKind.u64 (r : Int) 4503599627370495 = f) (wx : IntKind.i64.wrap x = x) (hx : x = 2047) (N : Int) (eo : bits BinOp.or IntKind.u32 S 2139095040 = N) :
    Calls Tryd.prog 34 #[.float .f64 r] w fun e w' => e = .returned (.tuple #[.int .u32 (N), .bool true]) ∧ w = w' := by
  subst hx
  have hB := bits_c (w := w) r
  go_enter Tryd.func34, Tryd.ntmps34
  go_wp2_with fail
  refine h.mono ?_
  rintro e w1 ⟨rfl, rfl⟩
  go_wp2_with fail
  refine hB.mono ?_
  rintro e w1 ⟨rfl, rfl⟩
  go_wp2_with fail
  go_ret2
  exact ⟨by first | rfl | (simp [*]; done), rfl⟩
set_option maxRecDepth 100000 in
set_option maxHeartbeats 1000000 in
theorem rnX_zero {w : World} (r : Nat) (G S x f : Int) (h : Calls Tryd.prog 58 #[.float .f64 r] w fun e w' => e = .returned (.bool false) ∧ w = w')
    (eg : (r : Int) / 9223372036854775808 = G) (wg : IntKind.u32.wrap G = G) (es : IntKind.u32.wrap (G * 2147483648) = S) (ex : bits BinOp.and IntKind.u64 ((r : Int) / 4503599627370496) 2047 = x) (ef : bits BinOp.and IntKind.u64 (r : Int) 4503599627370495 = f) (wx : IntKind.i64.wrap x = x) (hx : x = 0) (hf : f = 0) :
    Calls Tryd.prog 34 #[.float .f64 r] w fun e w' => e = .returned (.tuple #[.int .u32 (S), .bool true]) ∧ w = w' := by
  subst hx hf
  have hB := bits_c (w := w) r
  go_enter Tryd.func34, Tryd.ntmps34
  go_wp2_with fail
  refine h.mono ?_
  rintro e w1 ⟨rfl, rfl⟩
  go_wp2_with fail
  refine hB.mono ?_
  rintro e w1 ⟨rfl, rfl⟩
  go_wp2_with fail
  go_ret2
  exact ⟨by first | rfl | (simp [*]; done), rfl⟩
set_option maxRecDepth 100000 in
set_option maxHeartbeats 1000000 in
theorem rnX_one {w : World} (r : Nat) (G S x f : Int) (h : Calls Tryd.prog 58 #[.float .f64 r] w fun e w' => e = .returned (.bool false) ∧ w = w')
    (eg : (r : Int) / 9223372036854775808 = G) (wg : IntKind.u32.wrap G = G) (es : IntKind.u32.wrap (G * 2147483648) = S) (ex : bits BinOp.and IntKind.u64 ((r : Int) / 4503599627370496) 2047 = x) (ef : bits BinOp.and IntKind.u64 (r : Int) 4503599627370495 = f) (wx : IntKind.i64.wrap x = x) (h0 : 897 ≤ x) (h1 : x ≤ 1150) (em : bits BinOp.and IntKind.u64 f 536870911 = 0) (u y Y T q N : Int) (e1 : x - 1023 = u) (e2 : u + 127 = y) (e2w : IntKind.i64.wrap (u + 127) = y) (e3 : IntKind.u32.wrap y = y) (e4 : IntKind.u32.wrap (y * 8388608) = Y) (e5 : bits BinOp.or IntKind.u32 S Y = T) (e6 : IntKind.u32.wrap (f / 536870912) = q) (e7 : bits BinOp.or IntKind.u32 T q = N) :
    Calls Tryd.prog 34 #[.float .f64 r] w fun e w' => e = .returned (.tuple #[.int .u32 (N), .bool true]) ∧ w = w' := by
  have hB := bits_c (w := w) r
  go_enter Tryd.func34, Tryd.ntmps34
  go_wp2_with fail
  refine h.mono ?_
  rintro e w1 ⟨rfl, rfl⟩
  go_wp2_with fail
  refine hB.mono ?_
  rintro e w1 ⟨rfl, rfl⟩
  go_wp2_with fail
  go_ret2
  exact ⟨by first | rfl | (simp [*]; done), rfl⟩
set_option maxRecDepth 100000 in
set_option maxHeartbeats 1000000 in
theorem rnX_two {w : World} (r : Nat) (G S x f : Int) (h : Calls Tryd.prog 58 #[.float .f64 r] w fun e w' => e = .returned (.bool false) ∧ w = w')
    (eg : (r : Int) / 9223372036854775808 = G) (wg : IntKind.u32.wrap G = G) (es : IntKind.u32.wrap (G * 2147483648) = S) (ex : bits BinOp.and IntKind.u64 ((r : Int) / 4503599627370496) 2047 = x) (ef : bits BinOp.and IntKind.u64 (r : Int) 4503599627370495 = f) (wx : IntKind.i64.wrap x = x) (h0 : 874 ≤ x) (h1 : x < 897) (D A : Int) (e1 : 926 - x = D) (e2 : IntKind.u64.wrap D = D) (e3 : bits BinOp.or IntKind.u64 f 4503599627370496 = A) (e4 : bits BinOp.and IntKind.u64 A (IntKind.u64.wrap (IntKind.u64.wrap (2 ^ D.toNat) - 1)) = 0) (q N : Int) (e5 : A / 2 ^ D.toNat % 4294967296 = q) (e6 : bits BinOp.or IntKind.u32 S q = N) :
    Calls Tryd.prog 34 #[.float .f64 r] w fun e w' => e = .returned (.tuple #[.int .u32 (N), .bool true]) ∧ w = w' := by
  have hB := bits_c (w := w) r
  go_enter Tryd.func34, Tryd.ntmps34
  go_wp2_with fail
  refine h.mono ?_
  rintro e w1 ⟨rfl, rfl⟩
  go_wp2_with fail
  refine hB.mono ?_
  rintro e w1 ⟨rfl, rfl⟩
  go_wp2_with fail
  go_ret2
  exact ⟨by first | rfl | (simp [*]; done), rfl⟩
set_option maxRecDepth 100000 in
set_option maxHeartbeats 1000000 in
theorem rnX_n1 {w : World} (r : Nat) (G S x f : Int) (h : Calls Tryd.prog 58 #[.float .f64 r] w fun e w' => e = .returned (.bool false) ∧ w = w')
    (eg : (r : Int) / 9223372036854775808 = G) (wg : IntKind.u32.wrap G = G) (es : IntKind.u32.wrap (G * 2147483648) = S) (ex : bits BinOp.and IntKind.u64 ((r : Int) / 4503599627370496) 2047 = x) (ef : bits BinOp.and IntKind.u64 (r : Int) 4503599627370495 = f) (wx : IntKind.i64.wrap x = x) (h0 : 897 ≤ x) (h1 : x ≤ 1150) (Z : Int) (em : bits BinOp.and IntKind.u64 f 536870911 = Z) (hZ : ¬ Z = 0) :
    Calls Tryd.prog 34 #[.float .f64 r] w fun e w' => e = .returned (.tuple #[.int .u32 (0), .bool false]) ∧ w = w' := by
  have hb : (Z == 0) = false := beq_eq_false_iff_ne.2 hZ
  have hB := bits_c (w := w) r
  go_enter Tryd.func34, Tryd.ntmps34
  go_wp2_with fail
  refine h.mono ?_
  rintro e w1 ⟨rfl, rfl⟩
  go_wp2_with fail
  refine hB.mono ?_
  rintro e w1 ⟨rfl, rfl⟩
  go_wp2_with fail
  go_ret2
  exact ⟨by first | rfl | (simp [*]; done), rfl⟩
set_option maxRecDepth 100000 in
set_option maxHeartbeats 1000000 in
theorem rnX_n2 {w : World} (r : Nat) (G S x f : Int) (h : Calls Tryd.prog 58 #[.float .f64 r] w fun e w' => e = .returned (.bool false) ∧ w = w')
    (eg : (r : Int) / 9223372036854775808 = G) (wg : IntKind.u32.wrap G = G) (es : IntKind.u32.wrap (G * 2147483648) = S) (ex : bits BinOp.and IntKind.u64 ((r : Int) / 4503599627370496) 2047 = x) (ef : bits BinOp.and IntKind.u64 (r : Int) 4503599627370495 = f) (wx : IntKind.i64.wrap x = x) (h0 : 874 ≤ x) (h1 : x < 897) (D A : Int) (e1 : 926 - x = D) (e2 : IntKind.u64.wrap D = D) (e3 : bits BinOp.or IntKind.u64 f 4503599627370496 = A) (Z : Int) (e4 : bits BinOp.and IntKind.u64 A (IntKind.u64.wrap (IntKind.u64.wrap (2 ^ D.toNat) - 1)) = Z) (hZ : ¬ Z = 0) :
    Calls Tryd.prog 34 #[.float .f64 r] w fun e w' => e = .returned (.tuple #[.int .u32 (0), .bool false]) ∧ w = w' := by
  have hb : (Z == 0) = false := beq_eq_false_iff_ne.2 hZ
  have hB := bits_c (w := w) r
  go_enter Tryd.func34, Tryd.ntmps34
  go_wp2_with fail
  refine h.mono ?_
  rintro e w1 ⟨rfl, rfl⟩
  go_wp2_with fail
  refine hB.mono ?_
  rintro e w1 ⟨rfl, rfl⟩
  go_wp2_with fail
  go_ret2
  exact ⟨by first | rfl | (simp [*]; done), rfl⟩
set_option maxRecDepth 100000 in
set_option maxHeartbeats 1000000 in
theorem rnX_n3 {w : World} (r : Nat) (G S x f : Int) (h : Calls Tryd.prog 58 #[.float .f64 r] w fun e w' => e = .returned (.bool false) ∧ w = w')
    (eg : (r : Int) / 9223372036854775808 = G) (wg : IntKind.u32.wrap G = G) (es : IntKind.u32.wrap (G * 2147483648) = S) (ex : bits BinOp.and IntKind.u64 ((r : Int) / 4503599627370496) 2047 = x) (ef : bits BinOp.and IntKind.u64 (r : Int) 4503599627370495 = f) (wx : IntKind.i64.wrap x = x) (h0 : 0 < x) (h1 : x < 874) :
    Calls Tryd.prog 34 #[.float .f64 r] w fun e w' => e = .returned (.tuple #[.int .u32 (0), .bool false]) ∧ w = w' := by
  have hB := bits_c (w := w) r
  go_enter Tryd.func34, Tryd.ntmps34
  go_wp2_with fail
  refine h.mono ?_
  rintro e w1 ⟨rfl, rfl⟩
  go_wp2_with fail
  refine hB.mono ?_
  rintro e w1 ⟨rfl, rfl⟩
  go_wp2_with fail
  go_ret2
  exact ⟨by first | rfl | (simp [*]; done), rfl⟩
set_option maxRecDepth 100000 in
set_option maxHeartbeats 1000000 in
theorem rnX_n4 {w : World} (r : Nat) (G S x f : Int) (h : Calls Tryd.prog 58 #[.float .f64 r] w fun e w' => e = .returned (.bool false) ∧ w = w')
    (eg : (r : Int) / 9223372036854775808 = G) (wg : IntKind.u32.wrap G = G) (es : IntKind.u32.wrap (G * 2147483648) = S) (ex : bits BinOp.and IntKind.u64 ((r : Int) / 4503599627370496) 2047 = x) (ef : bits BinOp.and IntKind.u64 (r : Int) 4503599627370495 = f) (wx : IntKind.i64.wrap x = x) (h0 : 1150 < x) (h1 : ¬ x = 2047) :
    Calls Tryd.prog 34 #[.float .f64 r] w fun e w' => e = .returned (.tuple #[.int .u32 (0), .bool false]) ∧ w = w' := by
  have hb : (x == 2047) = false := beq_eq_false_iff_ne.2 h1
  have hB := bits_c (w := w) r
  go_enter Tryd.func34, Tryd.ntmps34
  go_wp2_with fail
  refine h.mono ?_
  rintro e w1 ⟨rfl, rfl⟩
  go_wp2_with fail
  refine hB.mono ?_
  rintro e w1 ⟨rfl, rfl⟩
  go_wp2_with fail
  go_ret2
  exact ⟨by first | rfl | (simp [*]; done), rfl⟩
set_option maxRecDepth 100000 in
set_option maxHeartbeats 1000000 in
theorem rnX_n5 {w : World} (r : Nat) (G S x f : Int) (h : Calls Tryd.prog 58 #[.float .f64 r] w fun e w' => e = .returned (.bool false) ∧ w = w')
    (eg : (r : Int) / 9223372036854775808 = G) (wg : IntKind.u32.wrap G = G) (es : IntKind.u32.wrap (G * 2147483648) = S) (ex : bits BinOp.and IntKind.u64 ((r : Int) / 4503599627370496) 2047 = x) (ef : bits BinOp.and IntKind.u64 (r : Int) 4503599627370495 = f) (wx : IntKind.i64.wrap x = x) (hx : x = 0) (hf : ¬ f = 0) :
    Calls Tryd.prog 34 #[.float .f64 r] w fun e w' => e = .returned (.tuple #[.int .u32 (0), .bool false]) ∧ w = w' := by
  subst hx
  have hb : (f == 0) = false := beq_eq_false_iff_ne.2 hf
  have hB := bits_c (w := w) r
  go_enter Tryd.func34, Tryd.ntmps34
  go_wp2_with fail
  refine h.mono ?_
  rintro e w1 ⟨rfl, rfl⟩
  go_wp2_with fail
  refine hB.mono ?_
  rintro e w1 ⟨rfl, rfl⟩
  go_wp2_with fail
  go_ret2
  exact ⟨by first | rfl | (simp [*]; done), rfl⟩
end Go.Proofs.YteigbejidfkhpaaDoor

/- The reference's Narrow, whole: the program's. -/
namespace Go.Proofs.YteigbejidfkhpaaDoor
open Go Go.RowKit
set_option linter.unusedSimpArgs false
set_option linter.unusedVariables false

theorem pow_d (d : Nat) (h0 : 30 ≤ d) (h1 : d ≤ 52) : IntKind.u64.wrap (IntKind.u64.wrap (2 ^ d) - 1) = ((2 ^ d - 1 : Nat) : Int) := by
  have h2 : 2 ^ d ≤ 2 ^ 52 := Nat.pow_le_pow_right (by omega) h1
  have h3 : 0 < 2 ^ d := Nat.two_pow_pos d
  have hc : ((2 : Int) ^ d) = ((2 ^ d : Nat) : Int) := by rw [Int.natCast_pow]; rfl
  rw [hc]
  obtain ⟨P, hP⟩ : ∃ P, P = 2 ^ d := ⟨_, rfl⟩
  rw [← hP] at h2 h3 ⊢
  show ((P : Int) % 18446744073709551616 - 1) % 18446744073709551616 = ((P - 1 : Nat) : Int)
  omega
theorem refNarrow_c {w : World} (r : Nat) (hr : r < 18446744073709551616) :
    Calls Tryd.prog 34 #[.float .f64 r] w fun e w' => e = .returned (nrV (narB r)) ∧ w = w' := by
  cases hn : nanB r with
  | true => exact rnX_nan r hr hn
  | false =>
  have h := isNaN_c (w := w) r hr
  rw [hn] at h
  rw [narB_ref hr hn]
  clear hn
  have eg : (r : Int) / 9223372036854775808 = ((r / 2 ^ 63 : Nat) : Int) := by omega
  have ex : bits BinOp.and IntKind.u64 ((r : Int) / 4503599627370496) 2047 = ((r / 2 ^ 52 % 2048 : Nat) : Int) := and_mask (r / 4503599627370496) 11 (by omega) (by omega)
  have ef : bits BinOp.and IntKind.u64 (r : Int) 4503599627370495 = ((r % 2 ^ 52 : Nat) : Int) := and_mask r 52 hr (by omega)
  have g2 : r / 2 ^ 63 < 2 := by omega
  have x2 : r / 2 ^ 52 % 2048 < 2048 := by omega
  have f2 : r % 2 ^ 52 < 2 ^ 52 := by omega
  generalize r / 2 ^ 63 = g at eg g2 ⊢
  generalize r / 2 ^ 52 % 2048 = x at ex x2 ⊢
  generalize r % 2 ^ 52 = f at ef f2 ⊢
  have wg : IntKind.u32.wrap (g : Int) = g := IntWalk.u32_in _ (by omega)
  have es : IntKind.u32.wrap ((g : Int) * 2147483648) = ((g * 2 ^ 31 : Nat) : Int) := by
    show ((g : Int) * 2147483648) % 4294967296 = _
    omega
  have wx : IntKind.i64.wrap (x : Int) = x := IntWalk.i64_in _ (by omega)
  unfold refN
  by_cases h1 : x = 2047
  · rw [if_pos h1]
    exact rnX_inf r g _ x f h eg wg es ex ef wx (by omega) _ (or_apart32 g 2139095040 31 (by decide) (by omega))
  rw [if_neg h1]
  by_cases h2 : x = 0 ∧ f = 0
  · rw [if_pos h2]
    exact rnX_zero r g _ x f h eg wg es ex ef wx (by omega) (by omega)
  rw [if_neg h2]
  have em : bits BinOp.and IntKind.u64 (f : Int) 536870911 = ((f % 2 ^ 29 : Nat) : Int) := and_mask f 29 (by omega) (by omega)
  by_cases h3 : (897 ≤ x ∧ x ≤ 1150) ∧ f % 2 ^ 29 = 0
  · rw [if_pos h3]
    obtain ⟨⟨h30, h31⟩, h32⟩ := h3
    rw [h32] at em
    have e7 := or_apart32 (g * 256 + (x - 896)) (f / 2 ^ 29) 23 (by omega) (by omega)
    rw [show (g * 256 + (x - 896)) * 2 ^ 23 = g * 2 ^ 31 + (x - 896) * 2 ^ 23 by omega] at e7
    refine rnX_one r g _ x f h eg wg es ex ef wx (by omega) (by omega) em ((x : Int) - 1023) ((x : Int) - 896) (((x - 896) * 2 ^ 23 : Nat) : Int) _ ((f / 2 ^ 29 : Nat) : Int) _ rfl (by omega) ?_ ?_ ?_ (or_apart32 g ((x - 896) * 2 ^ 23) 31 (by omega) (by omega)) ?_ e7
    · rw [show (x : Int) - 1023 + 127 = (x : Int) - 896 by omega]
      exact IntWalk.i64_in _ (by omega)
    · exact IntWalk.u32_in _ (by omega)
    · show ((x : Int) - 896) * 8388608 % 4294967296 = _
      omega
    · show ((f : Int) / 536870912) % 4294967296 = _
      omega
  rw [if_neg h3]
  by_cases h30 : 897 ≤ x ∧ x ≤ 1150
  · rw [if_neg (by omega)]
    exact rnX_n1 r g _ x f h eg wg es ex ef wx (by omega) (by omega) _ em (by omega)
  by_cases h4 : x < 897 ∧ 874 ≤ x
  · obtain ⟨d, hd⟩ : ∃ d, d = 926 - x := ⟨_, rfl⟩
    have hA := or_apart64 1 f 52 f2 (by omega)
    have hdi : (926 : Int) - (x : Int) = (d : Int) := by omega
    have wd : IntKind.u64.wrap (d : Int) = d := by show (d : Int) % 18446744073709551616 = _; omega
    have hA1 : (1 * 2 ^ 52 + f : Nat) = f + 2 ^ 52 := by omega
    rw [hA1] at hA
    have hZ : bits BinOp.and IntKind.u64 ((f + 2 ^ 52 : Nat) : Int) (IntKind.u64.wrap (IntKind.u64.wrap (2 ^ ((d : Int)).toNat) - 1)) = (((f + 2 ^ 52) % 2 ^ d : Nat) : Int) := by
      rw [Int.toNat_natCast, pow_d d (by omega) (by omega)]
      exact and_mask (f + 2 ^ 52) d (by omega) (by omega)
    rw [← hd]
    by_cases h5 : (f + 2 ^ 52) % 2 ^ d = 0
    · rw [if_pos ⟨h4, h5⟩]
      rw [h5] at hZ
      have hq : (f + 2 ^ 52) / 2 ^ d < 2 ^ 31 := by
        have h6 : 2 ^ 30 ≤ 2 ^ d := Nat.pow_le_pow_right (by omega) (by omega)
        have h7 := Nat.div_le_div_left h6 (Nat.two_pow_pos 30) (a := f + 2 ^ 52)
        omega
      refine rnX_two r g _ x f h eg wg es ex ef wx (by omega) (by omega) d _ hdi wd hA hZ (((f + 2 ^ 52) / 2 ^ d : Nat) : Int) _ ?_ (or_apart32 g ((f + 2 ^ 52) / 2 ^ d) 31 hq (by omega))
      rw [Int.toNat_natCast, show ((2 : Int) ^ d) = ((2 ^ d : Nat) : Int) by rw [Int.natCast_pow]; rfl, ← Int.natCast_ediv]
      generalize (f + 2 ^ 52) / 2 ^ d = q at hq
      omega
    · rw [if_neg (fun h => h5 h.2)]
      exact rnX_n2 r g _ x f h eg wg es ex ef wx (by omega) (by omega) d _ hdi wd hA _ hZ (by omega)
  · rw [if_neg (fun h => h4 h.1)]
    by_cases h6 : x = 0
    · exact rnX_n5 r g _ x f h eg wg es ex ef wx (by omega) (by omega)
    · by_cases h7 : x < 874
      · exact rnX_n3 r g _ x f h eg wg es ex ef wx (by omega) (by omega)
      · exact rnX_n4 r g _ x f h eg wg es ex ef wx (by omega) (by omega)
end Go.Proofs.YteigbejidfkhpaaDoor

/- The reference's Put, of a valid list. -/
namespace Go.Proofs.YteigbejidfkhpaaDoor
open Go Go.RowKit Go.Sort
set_option linter.unusedSimpArgs false
set_option linter.unusedVariables false

set_option maxRecDepth 100000 in
set_option maxHeartbeats 4000000 in
theorem refPut_c {w : World} {base : Nat} {v vl : Value} {l : List UInt8} {ps : List Prp} (h : RB w v l) (hl : l.length ≤ 17592186044416) (hp : RPr w vl ps) (hsz : ∀ p ∈ ps, p.nm.size ≤ 140737488351232) (hr : ∀ p ∈ ps, p.r < 18446744073709551616) (hv : validB ps = true) :
    Calls Tryd.prog 15 #[v, vl] w fun e w' => ∃ v', e = .returned (.tuple #[v', .int .i64 0]) ∧ OB w' w.heap.size v' (l ++ beB (propsB ps).length 4 ++ propsB ps) ∧ Below w.heap.size w w' := by
  have HV := Lib.hid (refValid_c hp (fun p h => ⟨hsz p h, hr p h⟩))
  rw [hv] at HV
  obtain ⟨A, c, rfl, hnc, hcell⟩ := props_at hp
  have HC := Lib.hid hcell
  have HS := Lib.hid hsz
  have HR := Lib.hid hr
  have HVP := Lib.hid (valid_all hv)
  have H16 := Lib.hid (valid_len hv)
  have H := Lib.hid h
  have qs := store_float (P := Tryd.prog)
  clear h hp hcell hsz hr hv
  go_enter Tryd.func15, Tryd.ntmps15
  go_wp2_with fail
  refine (HV.out).mono ?_
  rintro e w1 ⟨rfl, b1⟩
  go_wp2_with fail
  go_loopw [6, 17] (fun x i wr => ∃ k : Nat, k ≤ ps.length ∧ i = .int .i64 k ∧ Hid (OB wr w.heap.size x (propsB (ps.take k))) ∧ Below w.heap.size w wr) (fun _ i _ => ps.length - (intOf i).toNat)
  case atStart => exact ⟨0, Nat.zero_le _, rfl, Lib.hid (ob_nil _ _), b1⟩
  case round =>
    obtain ⟨k, hk, rfl, O1, b2⟩ := hrel
    clear b1
    by_cases hlt : k < ps.length
    · obtain ⟨p, hp⟩ : ∃ p, ps[k]? = some p := ⟨_, List.getElem?_eq_getElem hlt⟩
      obtain ⟨a, rfl, q0, q1, q2, q3, q4⟩ := HC.out k p hp
      have p0 := cell_below b2 (World.block_lt_of_cell? w _ q0) q0
      have p1 := cell_below b2 (World.block_lt_of_cell? w _ q1) q1
      have p2 := cell_below b2 (World.block_lt_of_cell? w _ q2) q2
      have p3 := cell_below b2 (World.block_lt_of_cell? w _ q3) q3
      have p4 := cell_below b2 (World.block_lt_of_cell? w _ q4) q4
      have hk16 : (k : Int) < 16 := by have := H16.out; omega
      have HP := Lib.hid hp
      clear hp q0 q1 q2 q3 q4
      have hns : p.nm.size ≤ 16 := by
        have hvp := (HVP.out p (List.mem_of_getElem? HP.out)).1
        unfold nameB at hvp
        simp only [Bool.and_eq_true, decide_eq_true_eq] at hvp
        exact hvp.1.2
      have hz : IntKind.u8.wrap ((p.nm.size : Nat) : Int) = ((UInt8.ofNat p.nm.size).toNat : Int) := wrap_byte _ (by omega)
      have HZ := Lib.hid hz
      clear hz
      have hzI : ((p.nm.size : Nat) : Int) ≤ 16 := by omega
      have hz0 : (0 : Int) ≤ ((p.nm.size : Nat) : Int) := by omega
      have HPB0 := Lib.hid (pb_drew (pb_new wr p))
      have HO1 := Lib.hid (fun o : Obj => (own_drew (O1.out.alloc (.cells #[.string p.nm, .int .i64 p.k, .int .i64 p.n, .string p.t, .float .f64 p.r] 48))).alloc o)
      have hW0 : w.heap.size ≤ (wr.alloc (.cells #[.string p.nm, .int .i64 p.k, .int .i64 p.n, .string p.t, .float .f64 p.r] 48)).drew.heap.size := Nat.le_trans b2.size (by show _ ≤ (wr.heap.push _).size; simp)
      have B0 := Lib.hid ((b2.alloc b2.size (.cells #[.string p.nm, .int .i64 p.k, .int .i64 p.n, .string p.t, .float .f64 p.r] 48)).drew)
      have HLK := Lib.hid (propsB_len (ps.take k) (fun q hq => HVP.out q (List.mem_of_mem_take hq)))
      have HTK := Lib.hid (show (ps.take k).length ≤ 16 by have := H16.out; rw [List.length_take]; omega)
      obtain ⟨s0, _, _, _, _⟩ := pb_facts HPB0.out
      go_upto_region 7 with fail
      go_region_held3 (fun w' => w'.cell? ⟨wr.heap.size, 0, none⟩ = some (.string p.nm))
        (first | exact s0 | go_keep)
        (first
          | (refine step_app_s (w0 := w) (base := w.heap.size) (l := propsB (ps.take k) ++ [UInt8.ofNat p.nm.size]) rfl (.tmp 27) (.tmp 29) rfl p.nm rfl rfl O2.out B2 B2.size (by have := HLK.out; have := HTK.out; simp; omega) ?_; intro v3 w3 o3 B3 g3; have HPB3 := Lib.hid (pb_grown HPB2.out O2.out g3); have s0 := (pb_facts HPB3.out).1; have O3 := Lib.hid o3; clear o3)
          | (refine step_app_b (w0 := w) (base := w.heap.size) (l := propsB (ps.take k)) (m := [UInt8.ofNat p.nm.size]) rfl (.tmp 21) (.tmp 26) rfl rfl rfl (HO1.out _) (rb_at1 _ _ _ HZ.out) (B0.out.alloc hW0 _) (Nat.le_trans hW0 (by show _ ≤ (Array.push _ _).size; simp)) (by have := HLK.out; have := HTK.out; simp; omega) ?_; intro v2 w2 o2 B2 g2 _; have HPB2 := Lib.hid (pb_grown (pb_alloc HPB0.out _) (HO1.out _) g2); have s0 := (pb_facts HPB2.out).1; have O2 := Lib.hid o2; clear o2 g2))
      have hgd := (HVP.out p (List.mem_of_getElem? HP.out)).2
      have hrl := HR.out p (List.mem_of_getElem? HP.out)
      have HRL := Lib.hid hrl
      have hts : ps.take (k + 1) = ps.take k ++ [p] := by rw [List.take_add_one, HP.out]; rfl
      have HTS := Lib.hid hts
      have HLK3 : Hid ((propsB (ps.take k) ++ [UInt8.ofNat p.nm.size] ++ p.nm.data.toList).length ≤ 20000) := Lib.hid (by have := HLK.out; have := HTK.out; simp only [List.length_append, List.length_cons, List.length_nil, ba_size]; omega)
      obtain ⟨L, hL⟩ : ∃ L, L = propsB (ps.take k) ++ [UInt8.ofNat p.nm.size] ++ p.nm.data.toList := ⟨_, rfl⟩
      have hfin : ∀ (wf : World) (vf : Value), OB wf w.heap.size vf (L ++ valB p) → OB wf w.heap.size vf (propsB (ps.take (k + 1))) := by
        intro wf vf h
        rw [hL] at h
        rw [HTS.out, propsB_snoc]
        unfold propB
        simpa using h
      rw [← hL] at O3 HLK3
      have HFIN := Lib.hid hfin
      clear hL hts hrl hfin O1 HO1 HLK HTK B0 HPB0 HPB2 O2 B2 g3 HZ hzI hz0 s0 p0 p1 p2 p3 p4 hns
      obtain ⟨_, s1, s2, s3, s4⟩ := pb_facts HPB3.out
      have hs3 : w.heap.size ≤ w3.heap.size := B3.size
      rcases good_of hgd with ⟨hk1, _, _⟩ | ⟨hk1, _, _, hn01⟩ | ⟨hk1, _, _, ht⟩ | ⟨hk1, hx1, hx2, hx3⟩
      · rw [hk1] at s1
        have hvb : valB p = 108 :: beB (p.n % 18446744073709551616).toNat 8 := by unfold valB; rw [if_pos hk1]
        have HVB := Lib.hid hvb
        clear hk1 hgd s3 s4 hvb
        go_upto_region 10 with fail
        have s2 := (pb_facts (pb_drew HPB3.out)).2.2.1
        go_region_held3 (fun w' => w'.cell? ⟨wr.heap.size, 2, none⟩ = some (.int .i64 p.n))
          (first | exact s2 | go_keep)
          (first
            | (go_at_call 20; refine (refBigK_c2 (base := w.heap.size) O4.out B4.size (by have := HLK3.out; simp; omega) (p.n % 18446744073709551616).toNat 8 (by omega) (by omega) _ 8 (wrap_u64 _) rfl).mono ?_; rintro e w5 ⟨v5, rfl, o5, b5, k5⟩; have B5 := B4.trans b5; have HPB5 := Lib.hid (pb_keeps HPB4.out k5); have s2 := (pb_facts HPB5.out).2.2.1; have O5 := Lib.hid o5; clear o5)
            | (refine step_app_b (w0 := w) (base := w.heap.size) (l := L) (m := [108]) rfl (.tmp 36) (.tmp 37) rfl rfl rfl ((own_drew O3.out).alloc _) (rb_at0 108 _ rfl) (B3.drew.alloc B3.size _) (Nat.le_trans B3.size (by show _ ≤ (Array.push _ _).size; simp)) (by have := HLK3.out; simp; omega) ?_; intro v4 w4 o4 B4 g4 _; have HPB4 := Lib.hid (pb_grown (pb_alloc (pb_drew HPB3.out) _) ((own_drew O3.out).alloc _) g4); have s2 := (pb_facts HPB4.out).2.2.1; have O4 := Lib.hid o4; clear o4 g4))
        go_wp2
        go_roundw
        case rel => exact ⟨k + 1, by omega, by go_num, Lib.hid (HFIN.out _ _ (by rw [HVB.out]; have := O5.out; simpa using this)), B5⟩
        case measure => simp [intOf]; omega
      · have h1 : ¬ p.k = 1 := by omega
        rw [hk1] at s1
        rcases hn01 with hn | hn
        · have hvb : valB p = [116, 0] := by unfold valB; rw [if_neg h1, if_pos hk1, hn]; rfl
          have HVB := Lib.hid hvb
          rw [hn] at s2
          clear hk1 h1 hgd hvb hn s3 s4
          go_wp2_with (at_builtin; refine app_b (w0 := w) (base := w.heap.size) (l := L) (m := [116, 0]) rfl (.tmp 46) (.tmp 51) rfl rfl rfl (O3.out.alloc _) (rb_two w3 116 0) (B3.alloc hs3 _) (by simp; omega) (by have := HLK3.out; simp; omega) ?_; intro v4 w4 o4 B4 _ _; have O4 := Lib.hid o4; clear o4)
          go_roundw
          case rel => exact ⟨k + 1, by omega, by go_num, Lib.hid (HFIN.out _ _ (by rw [HVB.out]; exact O4.out)), B4⟩
          case measure => simp [intOf]; omega
        · have hvb : valB p = [116, 1] := by unfold valB; rw [if_neg h1, if_pos hk1, hn]; rfl
          have HVB := Lib.hid hvb
          rw [hn] at s2
          clear hk1 h1 hgd hvb hn s3 s4
          go_wp2_with (at_builtin; refine app_b (w0 := w) (base := w.heap.size) (l := L) (m := [116, 1]) rfl (.tmp 46) (.tmp 51) rfl rfl rfl (O3.out.alloc _) (rb_two w3 116 1) (B3.alloc hs3 _) (by simp; omega) (by have := HLK3.out; simp; omega) ?_; intro v4 w4 o4 B4 _ _; have O4 := Lib.hid o4; clear o4)
          go_roundw
          case rel => exact ⟨k + 1, by omega, by go_num, Lib.hid (HFIN.out _ _ (by rw [HVB.out]; exact O4.out)), B4⟩
          case measure => simp [intOf]; omega
      · have h1 : ¬ p.k = 1 := by omega
        have h2 : ¬ p.k = 2 := by omega
        have hvb : valB p = 83 :: (beB p.t.size 4 ++ p.t.data.toList) := by unfold valB; rw [if_neg h1, if_neg h2, if_pos hk1]
        have HVB := Lib.hid hvb
        have htI : (p.t.size : Int) ≤ 256 := by omega
        rw [hk1] at s1
        clear hk1 h1 h2 hgd hvb s4 s2 ht
        go_upto_region 14 with fail
        have s3 := (pb_facts (pb_drew HPB3.out)).2.2.2.1
        go_region_held3 (fun w' => w'.cell? ⟨wr.heap.size, 3, none⟩ = some (.string p.t))
          (first | exact s3 | go_keep)
          (first
            | (go_at_call 20; refine (refBigK_c2 (base := w.heap.size) O4.out B4.size (by have := HLK3.out; simp; omega) p.t.size 4 (by omega) (by omega) _ 4 (by first | rfl | exact IntWalk.u64_in _ (by omega)) rfl).mono ?_; rintro e w5 ⟨v5, rfl, o5, b5, k5⟩; have B5 := B4.trans b5; have HPB5 := Lib.hid (pb_keeps HPB4.out k5); have s3 := (pb_facts HPB5.out).2.2.2.1; have O5 := Lib.hid o5; clear o5)
            | (refine step_app_b (w0 := w) (base := w.heap.size) (l := L) (m := [83]) rfl (.tmp 55) (.tmp 56) rfl rfl rfl ((own_drew O3.out).alloc _) (rb_at0 83 _ rfl) (B3.drew.alloc B3.size _) (Nat.le_trans B3.size (by show _ ≤ (Array.push _ _).size; simp)) (by have := HLK3.out; simp; omega) ?_; intro v4 w4 o4 B4 g4 _; have HPB4 := Lib.hid (pb_grown (pb_alloc (pb_drew HPB3.out) _) ((own_drew O3.out).alloc _) g4); have s3 := (pb_facts HPB4.out).2.2.2.1; have O4 := Lib.hid o4; clear o4 g4))
        go_wp2_with (at_builtin; refine app_s (w0 := w) (base := w.heap.size) (l := L ++ [83] ++ beB p.t.size 4) rfl (.tmp 64) (.tmp 67) rfl p.t rfl rfl O5.out B5 B5.size (by have := HLK3.out; simp [beB_len]; omega) ?_; intro v6 w6 o6 B6 g6; have O6 := Lib.hid o6; clear o6)
        go_roundw
        case rel => exact ⟨k + 1, by omega, by go_num, Lib.hid (HFIN.out _ _ (by rw [HVB.out]; have := O6.out; simpa using this)), B6⟩
        case measure => simp [intOf]; omega
      · have h1 : ¬ p.k = 1 := by omega
        have h2 : ¬ p.k = 2 := by omega
        have h3 : ¬ p.k = 3 := by omega
        have hvb : valB p = realB p.r := by unfold valB; rw [if_neg h1, if_neg h2, if_neg h3]
        have HVB := Lib.hid hvb
        rw [hk1] at s1
        clear hk1 h1 h2 h3 hgd hvb s2 s3 hx1 hx2 hx3
        have HNW := Lib.hid (refNarrow_c (w := w3) p.r HRL.out)
        unfold realB at HVB
        cases hn : narB p.r with
        | some n =>
          rw [hn] at HNW HVB
          rw [show nrV (some n) = .tuple #[.int .u32 n, .bool true] from rfl] at HNW
          have HN32 := Lib.hid (narB_lt hn)
          clear hn
          go_wp2_with fail
          refine (HNW.out).mono ?_
          rintro e w5 ⟨rfl, rfl⟩
          go_wp2_with (at_builtin; refine app_b (w0 := w) (base := w.heap.size) (l := L) (m := [102]) rfl (.tmp 79) (.tmp 80) rfl rfl rfl (O3.out.alloc _) (rb_one w3 102) (B3.alloc hs3 _) (by simp; omega) (by have := HLK3.out; simp; omega) ?_; intro v4 w4 o4 B4 _ _; have O4 := Lib.hid o4; clear o4)
          refine (refBigK_c2 (base := w.heap.size) O4.out B4.size (by have := HLK3.out; simp; omega) n 4 (by have := HN32.out; omega) (by omega) _ 4 (by first | rfl | exact IntWalk.u64_in _ (by have := HN32.out; omega)) rfl).mono ?_
          rintro e w5 ⟨v5, rfl, o5, b5, _⟩
          have B5 := B4.trans b5
          have O5 := Lib.hid o5
          clear o5
          go_wp2
          go_roundw
          case rel => exact ⟨k + 1, by omega, by go_num, Lib.hid (HFIN.out _ _ (by rw [HVB.out]; have := O5.out; simpa using this)), B5⟩
          case measure => simp [intOf]; omega
        | none =>
          rw [hn] at HNW HVB
          rw [show nrV none = .tuple #[.int .u32 0, .bool false] from rfl] at HNW
          clear hn
          go_wp2_with fail
          refine (HNW.out).mono ?_
          rintro e w5 ⟨rfl, rfl⟩
          go_upto_region 20 with fail
          have s4 := (pb_facts (pb_drew HPB3.out)).2.2.2.2
          go_region_held3 (fun w' => w'.cell? ⟨wr.heap.size, 4, none⟩ = some (.float .f64 p.r))
            (first | exact s4 | go_keep)
            (first
              | (go_at_call 20; refine (refBigK_c2 (base := w.heap.size) O4.out B4.size (by have := HLK3.out; simp; omega) p.r 8 HRL.out (by omega) _ 8 rfl rfl).mono ?_; rintro e w5 ⟨v5, rfl, o5, b5, k5⟩; have B5 := B4.trans b5; have HPB5 := Lib.hid (pb_keeps HPB4.out k5); have s4 := (pb_facts HPB5.out).2.2.2.2; have O5 := Lib.hid o5; clear o5)
              | (go_at_call 35; refine (bits_c p.r).mono ?_; rintro e w9 ⟨rfl, rfl⟩)
              | (refine step_app_b (w0 := w) (base := w.heap.size) (l := L) (m := [100]) rfl (.tmp 85) (.tmp 86) rfl rfl rfl ((own_drew O3.out).alloc _) (rb_at0 100 _ rfl) (B3.drew.alloc B3.size _) (Nat.le_trans B3.size (by show _ ≤ (Array.push _ _).size; simp)) (by have := HLK3.out; simp; omega) ?_; intro v4 w4 o4 B4 g4 _; have HPB4 := Lib.hid (pb_grown (pb_alloc (pb_drew HPB3.out) _) ((own_drew O3.out).alloc _) g4); have s4 := (pb_facts HPB4.out).2.2.2.2; have O4 := Lib.hid o4; clear o4 g4))
          go_wp2
          go_roundw
          case rel => exact ⟨k + 1, by omega, by go_num, Lib.hid (HFIN.out _ _ (by rw [HVB.out]; have := O5.out; simpa using this)), B5⟩
          case measure => simp [intOf]; omega
    · have hk2 : k = ps.length := by omega
      subst hk2
      have hta : ps.take ps.length = ps := List.take_of_length_le (Nat.le_refl _)
      rw [hta] at O1
      have hpl := propsB_len ps HVP.out
      have h16 := H16.out
      have HPL := Lib.hid (show (propsB ps).length ≤ 4448 by omega)
      obtain ⟨A1, c1, rfl, hc1, _⟩ := id (ob_rb O1.out)
      have hwr : w.heap.size ≤ wr.heap.size := b2.size
      clear hta hlt hk hpl h16
      have HR0 := Lib.hid (rb_below H.out b2)
      go_wp2_with (at_builtin; refine app_b (w0 := wr) (base := wr.heap.size) (l := []) (m := l) rfl (.tmp 94) (.tmp 95) rfl rfl rfl (World.ownsRow_made wr #[] 0 (Nat.le_refl _) (Nat.zero_le _) (by simp)) (rc_alloc HR0.out _) ((Below.refl _ _).alloc (Nat.le_refl _) _) (by simp) (by simp; omega) ?_; intro v4 w4 o4' b4 _ _; have o4 : OB w4 wr.heap.size v4 l := (by simpa using o4'); clear o4')
      refine (refBigK_c2 (base := wr.heap.size) o4 b4.size (by omega) (propsB ps).length 4 (by have := HPL.out; omega) (by omega) _ 4 (by first | rfl | exact IntWalk.u64_in _ (by have := HPL.out; omega)) rfl).mono ?_
      rintro e w5 ⟨v5, rfl, o5, b5, _⟩
      have O5 := Lib.hid o5
      have B5 := b4.trans b5
      have R5 := Lib.hid (rb_below (ob_rb O1.out) B5)
      clear o4 b4 o5 b5
      go_wp2_with (at_builtin; refine app_b (w0 := wr) (base := wr.heap.size) (l := l ++ beB (propsB ps).length 4) (m := propsB ps) rfl (.tmp 101) (.tmp 102) rfl rfl rfl O5.out R5.out B5 B5.size (by have := HPL.out; simp [beB_len]; omega) ?_; intro v6 w6 o6 b6 _ _; have O6 := Lib.hid o6; clear o6)
      go_ret2
      exact ⟨v6, rfl, own_lower O6.out hwr, b2.trans (b6.mono hwr)⟩
end Go.Proofs.YteigbejidfkhpaaDoor

/- The reference's Put, of a list that is not valid. -/
namespace Go.Proofs.YteigbejidfkhpaaDoor
open Go Go.RowKit
set_option linter.unusedSimpArgs false
set_option linter.unusedVariables false

theorem refPutBad_c {w : World} {v vl : Value} {ps : List Prp} (hp : RPr w vl ps) (hsz : ∀ p ∈ ps, p.nm.size ≤ 140737488351232 ∧ p.r < 18446744073709551616) (hv : validB ps = false) :
    Calls Tryd.prog 15 #[v, vl] w fun e w' => e = .returned (.tuple #[.slice none 0 0, .int .i64 36]) ∧ Below w.heap.size w w' := by
  have HV := Lib.hid (refValid_c hp hsz)
  rw [hv] at HV
  clear hp hsz hv
  go_enter Tryd.func15, Tryd.ntmps15
  go_wp2_with fail
  refine (HV.out).mono ?_
  rintro e w1 ⟨rfl, b1⟩
  go_wp2_with fail
  go_ret2
  exact ⟨rfl, b1⟩
end Go.Proofs.YteigbejidfkhpaaDoor

/- The reference's sameness of lists of properties. -/
namespace Go.Proofs.YteigbejidfkhpaaDoor
open Go Go.RowKit Go.Sort
set_option linter.unusedSimpArgs false
set_option linter.unusedVariables false

theorem prp_ext {p q : Prp} (h0 : p.nm = q.nm) (h : valSame p.k p.n p.t p.r q.k q.n q.t q.r = true) : p = q := by
  unfold valSame at h
  simp only [decide_eq_true_eq] at h
  obtain ⟨h1, h2, h3, h4⟩ := h
  cases p; cases q
  simp_all

theorem round_less1 {n k : Nat} (h : k < n) : n - (intOf (.int .i64 ((k : Int) + 1))).toNat < n - (intOf (.int .i64 (k : Int))).toNat := by
  show n - ((k : Int) + 1).toNat < n - (k : Int).toNat
  rw [show ((k : Int) + 1).toNat = k + 1 by omega, Int.toNat_natCast]
  omega
theorem valSame_self (p : Prp) : valSame p.k p.n p.t p.r p.k p.n p.t p.r = true := by unfold valSame; simp

set_option maxRecDepth 100000 in
set_option maxHeartbeats 2000000 in
theorem sameAll_c {w : World} {v v' : Value} {ps qs : List Prp} (hp : RPr w v ps) (hq : RPr w v' qs) :
    Calls Tryd.prog 18 #[v, v'] w fun e w' => ∃ b : Bool, e = .returned (.bool b) ∧ (b = true ↔ ps = qs) ∧ Below w.heap.size w w' := by
  have h63 : ps.length ≤ 9223372036854775807 := by obtain ⟨_, _, _, h1, h2, _⟩ := id hp; omega
  obtain ⟨A, c, rfl, hnc, hcell⟩ := props_at hp
  obtain ⟨A', c', rfl, hnc', hcell'⟩ := props_at hq
  have HC := Lib.hid hcell
  have HC' := Lib.hid hcell'
  have H63 := Lib.hid h63
  clear hp hq hcell hcell' h63
  by_cases hl : ps.length = qs.length
  · have HL := Lib.hid hl
    rw [← hl] at hnc' ⊢
    clear hl
    go_enter Tryd.func18, Tryd.ntmps18
    go_wp2_with fail
    go_loopw [13] (fun i wr => ∃ k : Nat, k ≤ ps.length ∧ i = .int .i64 k ∧ Hid (ps.take k = qs.take k) ∧ Below w.heap.size w wr) (fun i _ => ps.length - (intOf i).toNat)
    case atStart => exact ⟨0, Nat.zero_le _, rfl, Lib.hid rfl, Below.refl _ _⟩
    case round =>
      obtain ⟨k, hk, rfl, HT, b2⟩ := hrel
      by_cases hlt : k < ps.length
      · obtain ⟨p, hp⟩ : ∃ p, ps[k]? = some p := ⟨_, List.getElem?_eq_getElem hlt⟩
        obtain ⟨q, hq⟩ : ∃ q, qs[k]? = some q := ⟨_, List.getElem?_eq_getElem (by have := HL.out; omega)⟩
        obtain ⟨a, rfl, q0, q1, q2, q3, q4⟩ := HC.out k p hp
        obtain ⟨a', rfl, r0, r1, r2, r3, r4⟩ := HC'.out k q hq
        have hne : p ≠ q → ¬ ps = qs := fun h e => h (by rw [e] at hp; rw [hp] at hq; injection hq)
        have htk : p = q → ps.take (k + 1) = qs.take (k + 1) := fun h => by rw [List.take_add_one, List.take_add_one, hp, hq, HT.out, h]
        have HNE := Lib.hid hne
        have HTK := Lib.hid htk
        have hwk : wrap64 ((k : Int) + 1) = (k : Int) + 1 := by have := H63.out; unfold wrap64; omega
        have hkI : (k : Int) < ps.length := by omega
        have z0 : ∀ d os, (grow (redrawn wr d) os).cell? (a.add (k * 5)) = some (.string p.nm) := fun d os => cell_regrown (cell_below b2 (World.block_lt_of_cell? w _ q0) q0) d os
        have z1 : ∀ d os, (grow (redrawn wr d) os).cell? ⟨(a.add (k * 5)).block, (a.add (k * 5)).off + 1, none⟩ = some (.int .i64 p.k) := fun d os => cell_regrown (cell_below b2 (World.block_lt_of_cell? w _ q1) q1) d os
        have z2 : ∀ d os, (grow (redrawn wr d) os).cell? ⟨(a.add (k * 5)).block, (a.add (k * 5)).off + 2, none⟩ = some (.int .i64 p.n) := fun d os => cell_regrown (cell_below b2 (World.block_lt_of_cell? w _ q2) q2) d os
        have z3 : ∀ d os, (grow (redrawn wr d) os).cell? ⟨(a.add (k * 5)).block, (a.add (k * 5)).off + 3, none⟩ = some (.string p.t) := fun d os => cell_regrown (cell_below b2 (World.block_lt_of_cell? w _ q3) q3) d os
        have z4 : ∀ d os, (grow (redrawn wr d) os).cell? ⟨(a.add (k * 5)).block, (a.add (k * 5)).off + 4, none⟩ = some (.float .f64 p.r) := fun d os => cell_regrown (cell_below b2 (World.block_lt_of_cell? w _ q4) q4) d os
        have y0 : ∀ d os, (grow (redrawn wr d) os).cell? (a'.add (k * 5)) = some (.string q.nm) := fun d os => cell_regrown (cell_below b2 (World.block_lt_of_cell? w _ r0) r0) d os
        have y1 : ∀ d os, (grow (redrawn wr d) os).cell? ⟨(a'.add (k * 5)).block, (a'.add (k * 5)).off + 1, none⟩ = some (.int .i64 q.k) := fun d os => cell_regrown (cell_below b2 (World.block_lt_of_cell? w _ r1) r1) d os
        have y2 : ∀ d os, (grow (redrawn wr d) os).cell? ⟨(a'.add (k * 5)).block, (a'.add (k * 5)).off + 2, none⟩ = some (.int .i64 q.n) := fun d os => cell_regrown (cell_below b2 (World.block_lt_of_cell? w _ r2) r2) d os
        have y3 : ∀ d os, (grow (redrawn wr d) os).cell? ⟨(a'.add (k * 5)).block, (a'.add (k * 5)).off + 3, none⟩ = some (.string q.t) := fun d os => cell_regrown (cell_below b2 (World.block_lt_of_cell? w _ r3) r3) d os
        have y4 : ∀ d os, (grow (redrawn wr d) os).cell? ⟨(a'.add (k * 5)).block, (a'.add (k * 5)).off + 4, none⟩ = some (.float .f64 q.r) := fun d os => cell_regrown (cell_below b2 (World.block_lt_of_cell? w _ r4) r4) d os
        clear hp hq q0 q1 q2 q3 q4 r0 r1 r2 r3 r4 hne htk
        by_cases hnm : p.nm = q.nm
        · cases hvs : valSame p.k p.n p.t p.r q.k q.n q.t q.r with
          | true =>
            have hpq := prp_ext hnm hvs
            have hnx := HTK.out hpq
            have cS : ∀ d os, Calls Tryd.prog 40 #[.agg #[.int .i64 p.k, .int .i64 p.n, .string p.t, .float .f64 p.r], .agg #[.int .i64 q.k, .int .i64 q.n, .string q.t, .float .f64 q.r]] (grow (redrawn wr d) os) fun e w'' => e = .returned (.bool true) ∧ ∃ p : Regrown, w'' = grow (redrawn wr p.d) p.os := fun d os => Calls.regrown_of (by have := valSame_c (w := grow (redrawn wr d) os) p.k p.n p.t p.r q.k q.n q.t q.r; rw [hvs] at this; exact this)
            rw [← hnm] at y0
            clear hpq hvs hnm
            go_upto_region 6 with fail
            refine wp_region_quiet_below (by kernel_rfl) (by kernel_rfl) ?_
            repeat (go_big_quiet_step (first | exact cS _ _))
            refine wpQuiet_nil ?_
            intro _ hw'
            obtain ⟨⟨dq, osq⟩, hw''⟩ := hw'
            subst hw''
            have bE := b2.trans ((below_regrown wr dq osq).mono b2.size)
            go_wp2
            go_roundw
            case rel => exact ⟨k + 1, by omega, by go_num, Lib.hid hnx, bE⟩
            case measure => first | exact round_less1 hlt | (rw [hwk]; exact round_less1 hlt)
          | false =>
            have hpq : p ≠ q := fun e => by subst e; rw [valSame_self] at hvs; cases hvs
            have HPQ := Lib.hid hpq
            have cS : ∀ d os, Calls Tryd.prog 40 #[.agg #[.int .i64 p.k, .int .i64 p.n, .string p.t, .float .f64 p.r], .agg #[.int .i64 q.k, .int .i64 q.n, .string q.t, .float .f64 q.r]] (grow (redrawn wr d) os) fun e w'' => e = .returned (.bool false) ∧ ∃ p : Regrown, w'' = grow (redrawn wr p.d) p.os := fun d os => Calls.regrown_of (by have := valSame_c (w := grow (redrawn wr d) os) p.k p.n p.t p.r q.k q.n q.t q.r; rw [hvs] at this; exact this)
            rw [← hnm] at y0
            clear hpq hvs hnm hwk
            go_upto_region 6 with fail
            refine wp_region_quiet_below (by kernel_rfl) (by kernel_rfl) ?_
            repeat (go_big_quiet_step (first | exact cS _ _))
            refine wpQuiet_nil ?_
            intro _ hw'
            obtain ⟨⟨dq, osq⟩, hw''⟩ := hw'
            subst hw''
            have bE := b2.trans ((below_regrown wr dq osq).mono b2.size)
            go_wp2
            go_ret
            exact ⟨false, rfl, ⟨(fun h => by cases h), fun h => absurd h (HNE.out HPQ.out)⟩, bE⟩
        · have hpq : p ≠ q := fun e => hnm (by rw [e])
          have HPQ := Lib.hid hpq
          have hnm' := str_ne hnm
          clear hpq hnm hwk
          go_upto_region 6 with fail
          refine wp_region_quiet_below (by kernel_rfl) (by kernel_rfl) ?_
          repeat (go_big_quiet_step (first | fail))
          refine wpQuiet_nil ?_
          intro _ hw'
          obtain ⟨⟨dq, osq⟩, hw''⟩ := hw'
          subst hw''
          have bE := b2.trans ((below_regrown wr dq osq).mono b2.size)
          go_wp2
          go_ret
          exact ⟨false, rfl, ⟨(fun h => by cases h), fun h => absurd h (HNE.out HPQ.out)⟩, bE⟩
      · have hk2 : k = ps.length := by omega
        subst hk2
        have heq : ps = qs := by
          have := HT.out
          rwa [List.take_of_length_le (Nat.le_refl _), List.take_of_length_le (by have := HL.out; omega)] at this
        have HEQ := Lib.hid heq
        clear hlt heq
        go_wp2_with fail
        go_ret
        exact ⟨true, rfl, ⟨fun _ => HEQ.out, fun _ => rfl⟩, b2⟩
  · have hne : ¬ ps = qs := fun e => hl (by rw [e])
    have HNE := Lib.hid hne
    have hlb : ((ps.length : Int) == (qs.length : Int)) = false := beq_eq_false_iff_ne.2 (by omega)
    have hlb2 : (ps.length == qs.length) = false := beq_eq_false_iff_ne.2 hl
    clear hne hl
    go_enter Tryd.func18, Tryd.ntmps18
    go_wp2_with fail
    go_ret
    exact ⟨false, rfl, ⟨(fun h => by cases h), fun h => absurd h HNE.out⟩, Below.refl _ _⟩
end Go.Proofs.YteigbejidfkhpaaDoor

/- Layer 15's statements: what is too long to be played. -/
namespace Go.Proofs.YteigbejidfkhpaaDoor
open Go Go.RowKit
set_option linter.unusedSimpArgs false
set_option linter.unusedVariables false

theorem round_lessL {n k : Nat} (h : k < n) : n - (intOf (.int .i64 ((k : Int) + 1))).toNat < n - (intOf (.int .i64 (k : Int))).toNat := by
  show n - ((k : Int) + 1).toNat < n - (k : Int).toNat
  rw [show ((k : Int) + 1).toNat = k + 1 by omega, Int.toNat_natCast]
  omega
set_option maxRecDepth 100000 in
set_option maxHeartbeats 2000000 in
theorem long_c {w : World} {v : Value} {ps : List Prp} (hp : RPr w v ps) (hsz : ∀ p ∈ ps, p.nm.size ≤ 140737488351232 ∧ p.t.size ≤ 140737488351232) :
    Calls Tryd.prog 13 #[v] w fun e w' => ∃ b : Bool, e = .returned (.bool b) ∧ (b = false → ps.length ≤ 16384) ∧ Below w.heap.size w w' := by
  obtain ⟨A, c, rfl, hnc, hcell⟩ := props_at hp
  have HC := Lib.hid hcell
  have HS := Lib.hid hsz
  have qs := store_float (P := Tryd.prog)
  clear hp hcell hsz
  go_enter Tryd.func13, Tryd.ntmps13
  go_wp2_with fail
  go_loopw [3, 8] (fun x i wr => ∃ k m : Nat, k ≤ ps.length ∧ i = .int .i64 k ∧ x = .int .i64 m ∧ m ≤ 16384 ∧ Hid (k ≤ m) ∧ Below w.heap.size w wr) (fun _ i _ => ps.length - (intOf i).toNat)
  case atStart => exact ⟨0, 0, Nat.zero_le _, rfl, rfl, Nat.zero_le _, Lib.hid (Nat.zero_le _), Below.refl _ _⟩
  case round =>
    obtain ⟨k, m, hk, rfl, rfl, hm, HKM, b2⟩ := hrel
    by_cases hlt : k < ps.length
    · obtain ⟨p, hp⟩ : ∃ p, ps[k]? = some p := ⟨_, List.getElem?_eq_getElem hlt⟩
      obtain ⟨a, rfl, q0, q1, q2, q3, q4⟩ := HC.out k p hp
      have hs2 := HS.out p (List.mem_of_getElem? hp)
      obtain ⟨tot, htot⟩ : ∃ tot : Nat, tot = m + (1 + p.nm.size + p.t.size) := ⟨_, rfl⟩
      have e1 : IntKind.i64.wrap (1 + (p.nm.size : Int)) = 1 + p.nm.size := IntWalk.i64_in _ (by omega)
      have e2 : IntKind.i64.wrap (1 + (p.nm.size : Int) + (p.t.size : Int)) = 1 + p.nm.size + p.t.size := IntWalk.i64_in _ (by omega)
      have e3 : IntKind.i64.wrap ((m : Int) + (1 + (p.nm.size : Int) + (p.t.size : Int))) = m + (1 + p.nm.size + p.t.size) := IntWalk.i64_in _ (by omega)
      have hz0 : (0 : Int) ≤ p.nm.size := by omega
      have hz1 : (p.nm.size : Int) ≤ 140737488351232 := by omega
      have hz2 : (p.t.size : Int) ≤ 140737488351232 := by omega
      have p0 := cell_below b2 (World.block_lt_of_cell? w _ q0) q0
      have p1 := cell_below b2 (World.block_lt_of_cell? w _ q1) q1
      have p2 := cell_below b2 (World.block_lt_of_cell? w _ q2) q2
      have p3 := cell_below b2 (World.block_lt_of_cell? w _ q3) q3
      have p4 := cell_below b2 (World.block_lt_of_cell? w _ q4) q4
      have b3 := b2.alloc b2.size (.cells #[.string p.nm, .int .i64 p.k, .int .i64 p.n, .string p.t, .float .f64 p.r] 48)
      have HTOT := Lib.hid htot
      have HLT := Lib.hid hlt
      clear hp q0 q1 q2 q3 q4 hs2 htot
      by_cases hg : (16384 : Int) < m + (1 + p.nm.size + p.t.size)
      · go_wp2_with fail
        go_ret
        exact ⟨true, rfl, (fun h => by cases h), b3⟩
      · have hg' : (m : Int) + (1 + p.nm.size + p.t.size) ≤ 16384 := by omega
        clear hg
        go_wp2_with fail
        have hwk : wrap64 ((k : Int) + 1) = (k : Int) + 1 := by have := HKM.out; unfold wrap64; omega
        go_roundw
        case rel => exact ⟨k + 1, tot, by omega, by rw [hwk]; rfl, by rw [HTOT.out]; rfl, by have := HTOT.out; omega, Lib.hid (by have := HTOT.out; have := HKM.out; omega), b3⟩
        case measure => rw [hwk]; exact round_lessL HLT.out
    · have hk2 : k = ps.length := by omega
      subst hk2
      clear hlt
      have HM := Lib.hid hm
      go_wp2_with fail
      go_ret
      exact ⟨false, rfl, (fun _ => by have := HKM.out; have := HM.out; omega), b2⟩
end Go.Proofs.YteigbejidfkhpaaDoor

/- Layer 15: Form, sizes, fits. -/
namespace Go.Proofs.YteigbejidfkhpaaDoor
open Go Go.RowKit
set_option linter.unusedSimpArgs false
set_option linter.unusedVariables false

/-- The form of a method, by class * 256 + number. -/
def formOf (x : Nat) : Option ByteArray :=
  if x = 2570 then some ⟨#[111, 111, 84, 83, 83]⟩
  else if x = 2571 then some ⟨#[84, 115, 83, 115]⟩
  else if x = 2590 then some ⟨#[104, 108, 104]⟩
  else if x = 2591 then some ⟨#[104, 108, 104]⟩
  else if x = 2600 then some ⟨#[115, 115, 98]⟩
  else if x = 2601 then some ⟨#[115]⟩
  else if x = 15381 then some ⟨#[115]⟩
  else if x = 15432 then some ⟨#[115]⟩
  else if x = 2610 then some ⟨#[104, 115, 104, 104]⟩
  else if x = 5160 then some ⟨#[104, 115, 104, 104]⟩
  else if x = 2611 then some ⟨#[]⟩
  else if x = 5161 then some ⟨#[]⟩
  else if x = 12821 then some ⟨#[]⟩
  else if x = 15371 then some ⟨#[]⟩
  else if x = 21771 then some ⟨#[]⟩
  else if x = 23050 then some ⟨#[]⟩
  else if x = 23051 then some ⟨#[]⟩
  else if x = 23060 then some ⟨#[]⟩
  else if x = 23061 then some ⟨#[]⟩
  else if x = 23070 then some ⟨#[]⟩
  else if x = 23071 then some ⟨#[]⟩
  else if x = 5130 then some ⟨#[115]⟩
  else if x = 5131 then some ⟨#[83]⟩
  else if x = 12810 then some ⟨#[104, 115, 98, 84]⟩
  else if x = 12811 then some ⟨#[115, 108, 108]⟩
  else if x = 12820 then some ⟨#[104, 115, 115, 115, 98, 84]⟩
  else if x = 15370 then some ⟨#[108, 104, 98]⟩
  else if x = 15380 then some ⟨#[104, 115, 115, 98, 84]⟩
  else if x = 15400 then some ⟨#[104, 115, 115, 98]⟩
  else if x = 15420 then some ⟨#[115, 76, 98, 115, 115]⟩
  else if x = 15430 then some ⟨#[104, 115, 98]⟩
  else if x = 15431 then some ⟨#[76, 98, 115, 115, 108]⟩
  else if x = 15440 then some ⟨#[76, 98]⟩
  else if x = 15450 then some ⟨#[76, 98]⟩
  else if x = 15480 then some ⟨#[76, 98]⟩
  else if x = 21770 then some ⟨#[98]⟩
  else none
def formCI (c i : Int) : Option ByteArray := if 0 ≤ c ∧ c ≤ 255 ∧ 0 ≤ i ∧ i ≤ 255 then formOf (c.toNat * 256 + i.toNat) else none

theorem or_lem (z b : Nat) (hz : z < 2 ^ 48) (hb : b < 256) : bits BinOp.or IntKind.i64 ((z : Int) * 256) (b : Int) = ((z * 256 + b : Nat) : Int) := by
  have h3 : (z * 256) ||| b = z * 256 + b := by
    have := Nat.shiftLeft_add_eq_or_of_lt (i := 8) (b := b) (by omega) z
    rw [Nat.shiftLeft_eq] at this
    exact this.symm
  rw [show ((z : Int) * 256) = ((z * 256 : Nat) : Int) by omega]
  have e64 : IntKind.i64.bits = 64 := rfl
  have hm : (BitVec.ofInt IntKind.i64.bits ((z * 256 : Nat) : Int) ||| BitVec.ofInt IntKind.i64.bits ((b : Nat) : Int)).toNat = z * 256 + b := by
    rw [BitVec.toNat_or, BitVec.ofInt_natCast, BitVec.ofInt_natCast, BitVec.toNat_ofNat, BitVec.toNat_ofNat, e64, Nat.mod_eq_of_lt (by omega), Nat.mod_eq_of_lt (by omega), h3]
  show IntKind.i64.wrap (((BitVec.ofInt IntKind.i64.bits ((z * 256 : Nat) : Int) ||| BitVec.ofInt IntKind.i64.bits ((b : Nat) : Int)).toNat : Nat) : Int) = _
  rw [hm]
  exact IntWalk.i64_in _ (by omega)

set_option maxRecDepth 100000 in
set_option maxHeartbeats 4000000 in
theorem form_c {w : World} (c i : Int) :
    Calls Tryd.prog 23 #[.int .i64 c, .int .i64 i] w fun e w' => e = .returned (.tuple #[.string ((formCI c i).getD ByteArray.empty), .bool (formCI c i).isSome]) ∧ w = w' := by
  by_cases hr : 0 ≤ c ∧ c ≤ 255 ∧ 0 ≤ i ∧ i ≤ 255
  · have hf : formCI c i = formOf (c.toNat * 256 + i.toNat) := by unfold formCI; rw [if_pos hr]
    obtain ⟨h0, h1, h2, h3⟩ := hr
    obtain ⟨cn, rfl⟩ := Int.eq_ofNat_of_zero_le h0
    obtain ⟨im, rfl⟩ := Int.eq_ofNat_of_zero_le h2
    rw [hf]
    have hor := or_lem cn im (by omega) (by omega)
    obtain ⟨x, hx⟩ : ∃ x : Nat, x = cn * 256 + im := ⟨_, rfl⟩
    rw [← hx] at hor
    rw [show ((cn : Nat) : Int).toNat * 256 + ((im : Nat) : Int).toNat = x from hx.symm]
    clear hf hx
    go_enter Tryd.func23, Tryd.ntmps23
    go_upto_region 4 with fail

    by_cases g0 : x = 2570
    · subst g0
      go_wp2_with fail
      go_ret2
      exact ⟨rfl, rfl⟩
    have n0 : ((x : Int) == 2570) = false := beq_eq_false_iff_ne.2 (by omega)
    by_cases g1 : x = 2571
    · subst g1
      go_wp2_with fail
      go_ret2
      exact ⟨rfl, rfl⟩
    have n1 : ((x : Int) == 2571) = false := beq_eq_false_iff_ne.2 (by omega)
    by_cases g2 : x = 2590
    · subst g2
      go_wp2_with fail
      go_ret2
      exact ⟨rfl, rfl⟩
    have n2 : ((x : Int) == 2590) = false := beq_eq_false_iff_ne.2 (by omega)
    by_cases g3 : x = 2591
    · subst g3
      go_wp2_with fail
      go_ret2
      exact ⟨rfl, rfl⟩
    have n3 : ((x : Int) == 2591) = false := beq_eq_false_iff_ne.2 (by omega)
    by_cases g4 : x = 2600
    · subst g4
      go_wp2_with fail
      go_ret2
      exact ⟨rfl, rfl⟩
    have n4 : ((x : Int) == 2600) = false := beq_eq_false_iff_ne.2 (by omega)
    by_cases g5 : x = 2601
    · subst g5
      go_wp2_with fail
      go_ret2
      exact ⟨rfl, rfl⟩
    have n5 : ((x : Int) == 2601) = false := beq_eq_false_iff_ne.2 (by omega)
    by_cases g6 : x = 15381
    · subst g6
      go_wp2_with fail
      go_ret2
      exact ⟨rfl, rfl⟩
    have n6 : ((x : Int) == 15381) = false := beq_eq_false_iff_ne.2 (by omega)
    by_cases g7 : x = 15432
    · subst g7
      go_wp2_with fail
      go_ret2
      exact ⟨rfl, rfl⟩
    have n7 : ((x : Int) == 15432) = false := beq_eq_false_iff_ne.2 (by omega)
    by_cases g8 : x = 2610
    · subst g8
      go_wp2_with fail
      go_ret2
      exact ⟨rfl, rfl⟩
    have n8 : ((x : Int) == 2610) = false := beq_eq_false_iff_ne.2 (by omega)
    by_cases g9 : x = 5160
    · subst g9
      go_wp2_with fail
      go_ret2
      exact ⟨rfl, rfl⟩
    have n9 : ((x : Int) == 5160) = false := beq_eq_false_iff_ne.2 (by omega)
    by_cases g10 : x = 2611
    · subst g10
      go_wp2_with fail
      go_ret2
      exact ⟨rfl, rfl⟩
    have n10 : ((x : Int) == 2611) = false := beq_eq_false_iff_ne.2 (by omega)
    by_cases g11 : x = 5161
    · subst g11
      go_wp2_with fail
      go_ret2
      exact ⟨rfl, rfl⟩
    have n11 : ((x : Int) == 5161) = false := beq_eq_false_iff_ne.2 (by omega)
    by_cases g12 : x = 12821
    · subst g12
      go_wp2_with fail
      go_ret2
      exact ⟨rfl, rfl⟩
    have n12 : ((x : Int) == 12821) = false := beq_eq_false_iff_ne.2 (by omega)
    by_cases g13 : x = 15371
    · subst g13
      go_wp2_with fail
      go_ret2
      exact ⟨rfl, rfl⟩
    have n13 : ((x : Int) == 15371) = false := beq_eq_false_iff_ne.2 (by omega)
    by_cases g14 : x = 21771
    · subst g14
      go_wp2_with fail
      go_ret2
      exact ⟨rfl, rfl⟩
    have n14 : ((x : Int) == 21771) = false := beq_eq_false_iff_ne.2 (by omega)
    by_cases g15 : x = 23050
    · subst g15
      go_wp2_with fail
      go_ret2
      exact ⟨rfl, rfl⟩
    have n15 : ((x : Int) == 23050) = false := beq_eq_false_iff_ne.2 (by omega)
    by_cases g16 : x = 23051
    · subst g16
      go_wp2_with fail
      go_ret2
      exact ⟨rfl, rfl⟩
    have n16 : ((x : Int) == 23051) = false := beq_eq_false_iff_ne.2 (by omega)
    by_cases g17 : x = 23060
    · subst g17
      go_wp2_with fail
      go_ret2
      exact ⟨rfl, rfl⟩
    have n17 : ((x : Int) == 23060) = false := beq_eq_false_iff_ne.2 (by omega)
    by_cases g18 : x = 23061
    · subst g18
      go_wp2_with fail
      go_ret2
      exact ⟨rfl, rfl⟩
    have n18 : ((x : Int) == 23061) = false := beq_eq_false_iff_ne.2 (by omega)
    by_cases g19 : x = 23070
    · subst g19
      go_wp2_with fail
      go_ret2
      exact ⟨rfl, rfl⟩
    have n19 : ((x : Int) == 23070) = false := beq_eq_false_iff_ne.2 (by omega)
    by_cases g20 : x = 23071
    · subst g20
      go_wp2_with fail
      go_ret2
      exact ⟨rfl, rfl⟩
    have n20 : ((x : Int) == 23071) = false := beq_eq_false_iff_ne.2 (by omega)
    by_cases g21 : x = 5130
    · subst g21
      go_wp2_with fail
      go_ret2
      exact ⟨rfl, rfl⟩
    have n21 : ((x : Int) == 5130) = false := beq_eq_false_iff_ne.2 (by omega)
    by_cases g22 : x = 5131
    · subst g22
      go_wp2_with fail
      go_ret2
      exact ⟨rfl, rfl⟩
    have n22 : ((x : Int) == 5131) = false := beq_eq_false_iff_ne.2 (by omega)
    by_cases g23 : x = 12810
    · subst g23
      go_wp2_with fail
      go_ret2
      exact ⟨rfl, rfl⟩
    have n23 : ((x : Int) == 12810) = false := beq_eq_false_iff_ne.2 (by omega)
    by_cases g24 : x = 12811
    · subst g24
      go_wp2_with fail
      go_ret2
      exact ⟨rfl, rfl⟩
    have n24 : ((x : Int) == 12811) = false := beq_eq_false_iff_ne.2 (by omega)
    by_cases g25 : x = 12820
    · subst g25
      go_wp2_with fail
      go_ret2
      exact ⟨rfl, rfl⟩
    have n25 : ((x : Int) == 12820) = false := beq_eq_false_iff_ne.2 (by omega)
    by_cases g26 : x = 15370
    · subst g26
      go_wp2_with fail
      go_ret2
      exact ⟨rfl, rfl⟩
    have n26 : ((x : Int) == 15370) = false := beq_eq_false_iff_ne.2 (by omega)
    by_cases g27 : x = 15380
    · subst g27
      go_wp2_with fail
      go_ret2
      exact ⟨rfl, rfl⟩
    have n27 : ((x : Int) == 15380) = false := beq_eq_false_iff_ne.2 (by omega)
    by_cases g28 : x = 15400
    · subst g28
      go_wp2_with fail
      go_ret2
      exact ⟨rfl, rfl⟩
    have n28 : ((x : Int) == 15400) = false := beq_eq_false_iff_ne.2 (by omega)
    by_cases g29 : x = 15420
    · subst g29
      go_wp2_with fail
      go_ret2
      exact ⟨rfl, rfl⟩
    have n29 : ((x : Int) == 15420) = false := beq_eq_false_iff_ne.2 (by omega)
    by_cases g30 : x = 15430
    · subst g30
      go_wp2_with fail
      go_ret2
      exact ⟨rfl, rfl⟩
    have n30 : ((x : Int) == 15430) = false := beq_eq_false_iff_ne.2 (by omega)
    by_cases g31 : x = 15431
    · subst g31
      go_wp2_with fail
      go_ret2
      exact ⟨rfl, rfl⟩
    have n31 : ((x : Int) == 15431) = false := beq_eq_false_iff_ne.2 (by omega)
    by_cases g32 : x = 15440
    · subst g32
      go_wp2_with fail
      go_ret2
      exact ⟨rfl, rfl⟩
    have n32 : ((x : Int) == 15440) = false := beq_eq_false_iff_ne.2 (by omega)
    by_cases g33 : x = 15450
    · subst g33
      go_wp2_with fail
      go_ret2
      exact ⟨rfl, rfl⟩
    have n33 : ((x : Int) == 15450) = false := beq_eq_false_iff_ne.2 (by omega)
    by_cases g34 : x = 15480
    · subst g34
      go_wp2_with fail
      go_ret2
      exact ⟨rfl, rfl⟩
    have n34 : ((x : Int) == 15480) = false := beq_eq_false_iff_ne.2 (by omega)
    by_cases g35 : x = 21770
    · subst g35
      go_wp2_with fail
      go_ret2
      exact ⟨rfl, rfl⟩
    have n35 : ((x : Int) == 21770) = false := beq_eq_false_iff_ne.2 (by omega)
    have hnone : formOf x = none := by unfold formOf; rw [if_neg g0, if_neg g1, if_neg g2, if_neg g3, if_neg g4, if_neg g5, if_neg g6, if_neg g7, if_neg g8, if_neg g9, if_neg g10, if_neg g11, if_neg g12, if_neg g13, if_neg g14, if_neg g15, if_neg g16, if_neg g17, if_neg g18, if_neg g19, if_neg g20, if_neg g21, if_neg g22, if_neg g23, if_neg g24, if_neg g25, if_neg g26, if_neg g27, if_neg g28, if_neg g29, if_neg g30, if_neg g31, if_neg g32, if_neg g33, if_neg g34, if_neg g35]
    have HN := Lib.hid hnone
    clear hnone g0 g1 g2 g3 g4 g5 g6 g7 g8 g9 g10 g11 g12 g13 g14 g15 g16 g17 g18 g19 g20 g21 g22 g23 g24 g25 g26 g27 g28 g29 g30 g31 g32 g33 g34 g35
    go_wp2_with fail
    go_ret2
    exact ⟨by rw [HN.out]; rfl, rfl⟩
  · have hf : formCI c i = none := by unfold formCI; rw [if_neg hr]
    rw [hf]
    clear hf
    by_cases h0 : c < 0
    · clear hr
      go_enter Tryd.func23, Tryd.ntmps23
      go_wp2_with fail
      go_ret2
      exact ⟨rfl, rfl⟩
    · have h0' : 0 ≤ c := by omega
      by_cases h1 : 255 < c
      · clear hr h0
        go_enter Tryd.func23, Tryd.ntmps23
        go_wp2_with fail
        go_ret2
        exact ⟨rfl, rfl⟩
      · have h1' : c ≤ 255 := by omega
        by_cases h2 : i < 0
        · clear hr h0 h1
          go_enter Tryd.func23, Tryd.ntmps23
          go_wp2_with fail
          go_ret2
          exact ⟨rfl, rfl⟩
        · have h2' : 0 ≤ i := by omega
          have h3 : 255 < i := by omega
          clear hr h0 h1 h2
          go_enter Tryd.func23, Tryd.ntmps23
          go_wp2_with fail
          go_ret2
          exact ⟨rfl, rfl⟩

/-- The bytes of a number's letter. -/
def sizeOf' (c : Int) : Nat := if c = 111 then 1 else if c = 98 then 1 else if c = 104 then 2 else if c = 108 then 4 else if c = 76 then 8 else 0
set_option maxRecDepth 100000 in
set_option maxHeartbeats 1000000 in
theorem sizes_c {w : World} (c : Int) : Calls Tryd.prog 29 #[.int .i32 c] w fun e w' => e = .returned (.int .i64 (sizeOf' c : Nat)) ∧ w = w' := by

  by_cases g0 : c = 111
  · subst g0
    go_enter Tryd.func29, Tryd.ntmps29
    go_wp2_with fail
    go_ret
    exact ⟨rfl, rfl⟩
  have n0 : (c == 111) = false := beq_eq_false_iff_ne.2 g0
  by_cases g1 : c = 98
  · subst g1
    go_enter Tryd.func29, Tryd.ntmps29
    go_wp2_with fail
    go_ret
    exact ⟨rfl, rfl⟩
  have n1 : (c == 98) = false := beq_eq_false_iff_ne.2 g1
  by_cases g2 : c = 104
  · subst g2
    go_enter Tryd.func29, Tryd.ntmps29
    go_wp2_with fail
    go_ret
    exact ⟨rfl, rfl⟩
  have n2 : (c == 104) = false := beq_eq_false_iff_ne.2 g2
  by_cases g3 : c = 108
  · subst g3
    go_enter Tryd.func29, Tryd.ntmps29
    go_wp2_with fail
    go_ret
    exact ⟨rfl, rfl⟩
  have n3 : (c == 108) = false := beq_eq_false_iff_ne.2 g3
  by_cases g4 : c = 76
  · subst g4
    go_enter Tryd.func29, Tryd.ntmps29
    go_wp2_with fail
    go_ret
    exact ⟨rfl, rfl⟩
  have n4 : (c == 76) = false := beq_eq_false_iff_ne.2 g4
  have h : sizeOf' c = 0 := by unfold sizeOf'; rw [if_neg g0, if_neg g1, if_neg g2, if_neg g3, if_neg g4]
  rw [h]
  clear h g0 g1 g2 g3 g4
  go_enter Tryd.func29, Tryd.ntmps29
  go_wp2_with fail
  go_ret
  exact ⟨rfl, rfl⟩
end Go.Proofs.YteigbejidfkhpaaDoor

/- Layer 15: fits; table.Put of properties that cannot be. -/
namespace Go.Proofs.YteigbejidfkhpaaDoor
open Go Go.RowKit
set_option linter.unusedSimpArgs false
set_option linter.unusedVariables false

/-- Can a number be written in so many bytes? -/
def fitsB (n : Int) (s : Nat) : Bool := decide (0 ≤ n) && (decide (s = 8) || decide (n < 2 ^ (8 * s)))
set_option maxRecDepth 100000 in
set_option maxHeartbeats 1000000 in
theorem fits_c {w : World} (n : Int) (s : Nat) (hs : s = 1 ∨ s = 2 ∨ s = 4 ∨ s = 8) : Calls Tryd.prog 30 #[.int .i64 n, .int .i64 s] w fun e w' => e = .returned (.bool (fitsB n s)) ∧ w = w' := by
  by_cases h0 : n < 0
  · have e : fitsB n s = false := by unfold fitsB; rw [decide_eq_false (by omega)]; rfl
    rw [e]
    clear e hs
    go_enter Tryd.func30, Tryd.ntmps30
    go_wp2_with fail
    go_ret
    exact ⟨rfl, rfl⟩
  · have h0' : 0 ≤ n := by omega
    have e : fitsB n s = (decide (s = 8) || decide (n < 2 ^ (8 * s))) := by unfold fitsB; rw [decide_eq_true h0']; rfl
    rw [e]
    clear e h0
    rcases hs with rfl | rfl | rfl | rfl
    · go_enter Tryd.func30, Tryd.ntmps30
      go_wp2_with fail
      go_ret
      exact ⟨by first | rfl | (simp; done), rfl⟩
    · go_enter Tryd.func30, Tryd.ntmps30
      go_wp2_with fail
      go_ret
      exact ⟨by first | rfl | (simp; done), rfl⟩
    · go_enter Tryd.func30, Tryd.ntmps30
      go_wp2_with fail
      go_ret
      exact ⟨by first | rfl | (simp; done), rfl⟩
    · go_enter Tryd.func30, Tryd.ntmps30
      go_wp2_with fail
      go_ret
      exact ⟨by first | rfl | (simp; done), rfl⟩

set_option maxRecDepth 100000 in
theorem putBad_c {w : World} {v vl : Value} {ps : List Prp} (hp : RPr w vl ps) (hsz : ∀ p ∈ ps, p.nm.size ≤ 140737488351232) (hv : validB ps = false) :
    Calls Tryd.prog 14 #[v, vl] w fun e w' => e = .returned (.tuple #[.slice none 0 0, .int .i64 36]) ∧ Below w.heap.size w w' := by
  have HV := Lib.hid (valid_c hp hsz)
  rw [hv] at HV
  clear hp hsz hv
  go_enter Tryd.func14, Tryd.ntmps14
  go_wp2_with fail
  refine (HV.out).mono ?_
  rintro e w1 ⟨rfl, b1⟩
  go_wp2_with fail
  go_ret2
  exact ⟨rfl, b1⟩
end Go.Proofs.YteigbejidfkhpaaDoor
