/- Layer 16, first part: types of frames, numbers as bytes. -/
import Derived.Test.YtbniandbmabdbaaDoorOpen
namespace Go.Proofs.YtbniandbmabdbaaDoor.Af
open Go Go.RowKit
set_option linter.unusedSimpArgs false
set_option linter.unusedVariables false

/-- Byte i of a number; its k bytes, the highest first. -/
def dig (n i : Nat) : UInt8 := UInt8.ofNat (n / 2 ^ (8 * i))
def beB (n : Nat) : Nat → List UInt8
  | 0 => []
  | k + 1 => dig n k :: beB n k
theorem beB_len (n : Nat) : ∀ k, (beB n k).length = k
  | 0 => rfl
  | k + 1 => by simp [beB, beB_len n k]

def kindB (n : Int) : Bool := n == 1 || n == 2 || n == 3 || n == 8

set_option maxRecDepth 100000 in
theorem kind_c {w : World} (n : Int) : Calls Tryd.prog 19 #[.int .i64 n] w fun e w' => e = .returned (.bool (kindB n)) ∧ w = w' := by
  by_cases h1 : n = 1
  · subst h1
    go_enter Tryd.func19, Tryd.ntmps19
    go_wp2
    go_ret
    exact ⟨rfl, rfl⟩
  · by_cases h2 : n = 2
    · subst h2
      go_enter Tryd.func19, Tryd.ntmps19
      go_wp2
      go_ret
      exact ⟨rfl, rfl⟩
    · by_cases h3 : n = 3
      · subst h3
        go_enter Tryd.func19, Tryd.ntmps19
        go_wp2
        go_ret
        exact ⟨rfl, rfl⟩
      · have e1 : (n == 1) = false := beq_eq_false_iff_ne.2 h1
        have e2 : (n == 2) = false := beq_eq_false_iff_ne.2 h2
        have e3 : (n == 3) = false := beq_eq_false_iff_ne.2 h3
        have e8 : (n == 8) = kindB n := by unfold kindB; rw [e1, e2, e3]; rfl
        have E8 := Lib.hid e8
        clear e8
        go_enter Tryd.func19, Tryd.ntmps19
        go_wp2
        go_ret
        exact ⟨by rw [← E8.out]; rfl, rfl⟩

set_option maxRecDepth 100000 in
theorem refKind_c {w : World} (n : Int) : Calls Tryd.prog 21 #[.int .i64 n] w fun e w' => e = .returned (.bool (kindB n)) ∧ w = w' := by
  by_cases h1 : n = 1
  · subst h1
    go_enter Tryd.func21, Tryd.ntmps21
    go_wp2
    go_ret
    exact ⟨rfl, rfl⟩
  · by_cases h2 : n = 2
    · subst h2
      go_enter Tryd.func21, Tryd.ntmps21
      go_wp2
      go_ret
      exact ⟨rfl, rfl⟩
    · by_cases h3 : n = 3
      · subst h3
        go_enter Tryd.func21, Tryd.ntmps21
        go_wp2
        go_ret
        exact ⟨rfl, rfl⟩
      · have e1 : (n == 1) = false := beq_eq_false_iff_ne.2 h1
        have e2 : (n == 2) = false := beq_eq_false_iff_ne.2 h2
        have e3 : (n == 3) = false := beq_eq_false_iff_ne.2 h3
        have e8 : (n == 8) = kindB n := by unfold kindB; rw [e1, e2, e3]; rfl
        have E8 := Lib.hid e8
        clear e8
        go_enter Tryd.func21, Tryd.ntmps21
        go_wp2
        go_ret
        exact ⟨by rw [← E8.out]; rfl, rfl⟩

theorem dig_val (n r : Nat) : ((n : Int) / 2 ^ (8 * r) % 256) = ((dig n r).toNat : Int) := by
  have h : (dig n r).toNat = n / 2 ^ (8 * r) % 256 := by
    unfold dig
    exact UInt8.toNat_ofNat' ..
  rw [h, Int.natCast_emod, Int.natCast_ediv, Int.natCast_pow]
  rfl
theorem rb_dig (w : World) (x : UInt8) (z : Int) (hz : z = (x.toNat : Int)) : RB (w.alloc (.cells #[.int .u8 z] 5)) (.slice (some ⟨w.heap.size, 0, none⟩) 1 1) [x] := by
  subst hz
  exact rb_one w x

set_option maxRecDepth 100000 in
set_option maxHeartbeats 1000000 in
theorem put_c {w : World} {base : Nat} {v : Value} {l : List UInt8} (h : OB w base v l) (hB : base ≤ w.heap.size) (hl : l.length ≤ 70368744177664) (n : Nat) (hn : n < 9223372036854775808) (k : Nat) (hk : k ≤ 8) :
    Calls Tryd.prog 20 #[v, .int .i64 n, .int .i64 k] w fun e w' => ∃ v', e = .returned v' ∧ OB w' base v' (l ++ beB n k) ∧ Below base w w' := by
  have H := Lib.hid h
  clear h
  go_enter Tryd.func20, Tryd.ntmps20
  go_wp2
  go_loopw [0, 7] (fun x i wr => ∃ (r : Nat) (pre : List UInt8), r ≤ k ∧ i = .int .i64 ((r : Int) - 1) ∧ Hid (pre ++ beB n r = beB n k) ∧ Hid (OB wr base x (l ++ pre)) ∧ Below base w wr) (fun _ i _ => (intOf i + 1).toNat)
  case atStart => exact ⟨k, [], Nat.le_refl _, rfl, Lib.hid rfl, by simpa [Lib.hid] using H, Below.refl _ _⟩
  case round =>
    obtain ⟨r, pre, hr, rfl, HP, O2, b2⟩ := hrel
    cases r with
    | zero =>
      go_wp2
      go_ret
      have := HP.out
      simp only [beB, List.append_nil] at this
      exact ⟨_, rfl, by rw [← this]; exact O2.out, b2⟩
    | succ r =>
      have hpl : pre.length ≤ 8 := by
        have := congrArg List.length HP.out
        rw [List.length_append, beB_len, beB_len] at this
        omega
      go_wp2_with (at_builtin; refine app_b (w0 := w) (base := base) (l := l ++ pre) (m := [dig n r]) rfl (.tmp 14) (.tmp 20) rfl rfl rfl (O2.out.alloc _) (rb_dig wr _ _ (dig_val n r)) (b2.alloc (by have := b2.size; omega) _) (by have := b2.size; simp; omega) (by simp; omega) ?_; intro v4 w4 o4 b4 _ _; have O4 := Lib.hid o4; clear o4)
      go_roundw
      case rel => exact ⟨r, pre ++ [dig n r], by omega, by go_num, Lib.hid (by have := HP.out; simpa [beB] using this), Lib.hid (by have := O4.out; rwa [List.append_assoc] at this), b4⟩
      case measure => simp [intOf]
end Go.Proofs.YtbniandbmabdbaaDoor.Af
