/- Layer 18: ends of lines, lines, commands, a header's text: the walks. -/
import Derived.Test.YtfpdmgmolhddnaaDoorSfP
import Derived.Test.YtfpdmgmolhddnaaDoorBase
import Derived.Test.YtfpdmgmolhddnaaDoorQaA
import Derived.Test.YtfpdmgmolhddnaaDoorShelf
import Derived.Shelf.Strings.SlTrimAscii
import Derived.Deep.DeepCutAuto
namespace Go.Proofs.YtfpdmgmolhddnaaDoor
open Go Go.RowKit Go.Sort
open Go.ChangeShapes Go.WideShapes Go.Deep
set_option linter.unusedSimpArgs false
set_option linter.unusedVariables false

theorem ba_self (s : ByteArray) : (⟨s.data.toList.toArray⟩ : ByteArray) = s := ba_ext (by simp)
theorem drop_data (s : ByteArray) (n : Nat) (h : n ≤ s.size) : (s.extract n s.size).data.toList = s.data.toList.drop n := by
  rw [ByteArray.data_extract, Array.toList_extract, List.extract_eq_take_drop]
  exact List.take_of_length_le (by rw [List.length_drop, ba_size]; exact Nat.le_refl _)
theorem take_data (s : ByteArray) (n : Nat) : (s.extract 0 n).data.toList = s.data.toList.take n := by
  rw [ByteArray.data_extract, Array.toList_extract, List.extract_eq_take_drop]
  simp
theorem wk1' (k n : Nat) (h : k < n) (hn : n ≤ 9223372036854775807) : wrap64 ((k : Int) + 1) = (k : Int) + 1 := by unfold wrap64; omega
theorem wk2' (k n : Nat) (h : k + 1 < n) (hn : n ≤ 9223372036854775807) : wrap64 ((k : Int) + 2) = (k : Int) + 2 := by unfold wrap64; omega
theorem less1 {n k : Nat} (h : k < n) : n - (intOf (.int .i64 ((k : Int) + 1))).toNat < n - (intOf (.int .i64 (k : Int))).toNat := by
  show n - ((k : Int) + 1).toNat < n - (k : Int).toNat
  omega
theorem less2 {n k : Nat} (h : k + 1 < n) : n - (intOf (.int .i64 ((k : Int) + 2))).toNat < n - (intOf (.int .i64 (k : Int))).toNat := by
  show n - ((k : Int) + 2).toNat < n - (k : Int).toNat
  omega
theorem less_by {n k m : Nat} (h : k < m) (hm : m ≤ n) : n - (intOf (.int .i64 (m : Int))).toNat < n - (intOf (.int .i64 (k : Int))).toNat := by simp [intOf]; omega

abbrev StopS : Ending := .panicked [{ v := .iface 38 (.agg #[]), recovered := false }]
set_option maxRecDepth 100000 in
theorem unless_t (w : World) : Calls Tryd.prog 13 #[.bool true] w fun e w' => e = .returned (.tuple #[]) ∧ w' = w := by
  go_enter Tryd.func13, Tryd.ntmps13
  go_wp2_with fail
  go_end0
  exact ⟨rfl, rfl⟩
set_option maxRecDepth 100000 in
theorem unless_f (w : World) : Calls Tryd.prog 13 #[.bool false] w fun e w' => e = StopS ∧ w' = w := by
  go_enter Tryd.func13, Tryd.ntmps13
  go_wp2_with fail
  exact ⟨rfl, rfl, rfl⟩

set_option maxRecDepth 100000 in
set_option maxHeartbeats 2000000 in
theorem blanks_c {w : World} (s : ByteArray) (hs : s.size ≤ 140737488351232) :
    Calls Tryd.prog 11 #[.string s] w fun e w' => e = .returned (.int .i64 (blanksP s.data.toList)) ∧ w' = w := by
  obtain ⟨N, hN⟩ : ∃ N, N = blanksP s.data.toList := ⟨_, rfl⟩
  rw [← hN]
  have HN := Lib.hid hN
  have HS := Lib.hid hs
  clear hN hs
  go_enter Tryd.func11, Tryd.ntmps11
  go_wp2_with fail
  go_loopw [3] (fun i wr => ∃ n : Nat, n ≤ s.size ∧ i = .int .i64 n ∧ Hid (N = n + blanksP (s.data.toList.drop n)) ∧ wr = w) (fun i _ => s.size - (intOf i).toNat)
  case atStart => exact ⟨0, Nat.zero_le _, rfl, Lib.hid (by rw [HN.out, List.drop_zero, Nat.zero_add]), rfl⟩
  case round =>
    obtain ⟨n, hn, rfl, HR, rfl⟩ := hrel
    have hnI : (n : Int) ≤ (s.size : Int) := by omega
    have hd := drop_data s n hn
    have hlen : (s.data.toList.drop n).length = s.size - n := by rw [List.length_drop, ba_size]
    obtain ⟨t, ht⟩ : ∃ t, t = s.extract n s.size := ⟨_, rfl⟩
    have HT := Lib.hid ht
    rw [← ht] at hd
    rcases blanks_cases (s.data.toList.drop n) with ⟨u, hu⟩ | ⟨u, hu⟩ | ⟨h1, h2⟩
    · have p1 : Lib.hasPrefix t.data.toList (⟨#[10]⟩ : ByteArray).data.toList = true := by rw [hd, hu]; simp [Lib.hasPrefix]
      have hlt : n < s.size := by rw [hu, List.length_cons] at hlen; omega
      have hu2 : s.data.toList.drop (n + 1) = u := by rw [← List.drop_drop, hu]; rfl
      have HW1 := Lib.hid (wk1' n _ hlt (by have := HS.out; omega))
      have HR2 : Hid (N = (n + 1 : Nat) + blanksP (s.data.toList.drop (n + 1))) := Lib.hid (by rw [HR.out, hu, hu2, blanks_lf]; omega)
      have HLT := Lib.hid hlt
      clear hd hlen hu hu2 ht hn hlt
      go_wp2_with fail
      rw [← HT.out]
      refine (Tryd.strings_HasPrefix t ⟨#[10]⟩ _).mono ?_
      rintro e w1 ⟨rfl, rfl⟩
      rw [p1]
      clear p1
      go_wp2_with fail
      go_roundw
      case rel => exact ⟨n + 1, HLT.out, by first | rfl | (rw [HW1.out]; rfl), HR2, trivial⟩
      case measure => first | exact less1 HLT.out | (rw [HW1.out]; exact less1 HLT.out)
    · have p1 : Lib.hasPrefix t.data.toList (⟨#[10]⟩ : ByteArray).data.toList = false := by rw [hd, hu]; rfl
      have p2 : Lib.hasPrefix t.data.toList (⟨#[13, 10]⟩ : ByteArray).data.toList = true := by rw [hd, hu]; simp [Lib.hasPrefix]
      have hlt : n + 1 < s.size := by rw [hu, List.length_cons, List.length_cons] at hlen; omega
      have hu2 : s.data.toList.drop (n + 2) = u := by rw [← List.drop_drop, hu]; rfl
      have HW1 := Lib.hid (wk2' n _ hlt (by have := HS.out; omega))
      have HR2 : Hid (N = (n + 2 : Nat) + blanksP (s.data.toList.drop (n + 2))) := Lib.hid (by rw [HR.out, hu, hu2, blanks_crlf]; omega)
      have HLT := Lib.hid hlt
      clear hd hlen hu hu2 ht hn hlt
      go_wp2_with fail
      rw [← HT.out]
      refine (Tryd.strings_HasPrefix t ⟨#[10]⟩ _).mono ?_
      rintro e w1 ⟨rfl, rfl⟩
      rw [p1]
      clear p1
      go_wp2_with fail
      try rw [← HT.out]
      refine (Tryd.strings_HasPrefix t ⟨#[13, 10]⟩ _).mono ?_
      rintro e w1 ⟨rfl, rfl⟩
      rw [p2]
      clear p2
      go_wp2_with fail
      go_roundw
      case rel => exact ⟨n + 2, HLT.out, by first | rfl | (rw [HW1.out]; rfl), HR2, trivial⟩
      case measure => first | exact less2 HLT.out | (rw [HW1.out]; exact less2 HLT.out)
    · have p1 : Lib.hasPrefix t.data.toList (⟨#[10]⟩ : ByteArray).data.toList = false := by
        rw [hd]
        unfold Lib.hasPrefix
        cases hc : s.data.toList.drop n with
        | nil => rfl
        | cons c v =>
          have : c ≠ 10 := fun e => h1 (by rw [hc, e]; rfl)
          simp [List.isPrefixOf]
          exact fun e => this e.symm
      have p2 : Lib.hasPrefix t.data.toList (⟨#[13, 10]⟩ : ByteArray).data.toList = false := by
        rw [hd]
        unfold Lib.hasPrefix
        match hc : s.data.toList.drop n with
        | [] => rfl
        | [c] => simp [List.isPrefixOf]
        | c :: d :: v =>
          have : ¬ (c = 13 ∧ d = 10) := fun e => h2 ⟨v, by rw [hc, e.1, e.2]⟩
          simp [List.isPrefixOf]
          exact fun e1 e2 => this ⟨e1.symm, e2.symm⟩
      obtain rfl : N = n := by rw [HR.out, blanks_no h1 h2]; rfl
      clear hd hlen h1 h2 ht hn HR HN
      go_wp2_with fail
      rw [← HT.out]
      refine (Tryd.strings_HasPrefix t ⟨#[10]⟩ _).mono ?_
      rintro e w1 ⟨rfl, rfl⟩
      rw [p1]
      clear p1
      go_wp2_with fail
      try rw [← HT.out]
      refine (Tryd.strings_HasPrefix t ⟨#[13, 10]⟩ _).mono ?_
      rintro e w1 ⟨rfl, rfl⟩
      rw [p2]
      clear p2
      go_wp2_with fail
      go_ret
      exact ⟨rfl, rfl⟩
end Go.Proofs.YtfpdmgmolhddnaaDoor
