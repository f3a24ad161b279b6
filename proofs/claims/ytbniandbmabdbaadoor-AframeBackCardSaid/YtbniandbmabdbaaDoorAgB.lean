/- Layer 16, second part: numbers as bytes, the reference's; bytes as numbers. -/
import Derived.Test.YtbniandbmabdbaaDoorAgA
namespace Go.Proofs.YtbniandbmabdbaaDoor.Af
open Go Go.RowKit
set_option linter.unusedSimpArgs false
set_option linter.unusedVariables false

set_option maxRecDepth 100000 in
set_option maxHeartbeats 1000000 in
theorem refBig_c {w : World} {base : Nat} {v : Value} {l : List UInt8} (h : OB w base v l) (hB : base ≤ w.heap.size) (hl : l.length ≤ 70368744177664) (n : Nat) (hn : n < 18446744073709551616) (k : Nat) (hk : k ≤ 8) :
    Calls Tryd.prog 22 #[v, .int .u64 n, .int .i64 k] w fun e w' => ∃ v', e = .returned v' ∧ OB w' base v' (l ++ beB n k) ∧ Below base w w' := by
  have H := Lib.hid h
  clear h
  go_enter Tryd.func22, Tryd.ntmps22
  go_wp2
  go_loopw [0, 7] (fun x i wr => ∃ (m r : Nat) (pre : List UInt8), m + r = k ∧ i = .int .i64 m ∧ Hid (pre ++ beB n r = beB n k) ∧ Hid (OB wr base x (l ++ pre)) ∧ Below base w wr) (fun _ i _ => k - (intOf i).toNat)
  case atStart => exact ⟨0, k, [], by omega, rfl, Lib.hid rfl, by simpa [Lib.hid] using H, Below.refl _ _⟩
  case round =>
    obtain ⟨m, r, pre, hr, rfl, HP, O2, b2⟩ := hrel
    cases r with
    | zero =>
      have hm : k ≤ m := by omega
      have hm2 : m ≤ k := by omega
      clear hr
      go_wp2
      go_ret
      have := HP.out
      simp only [beB, List.append_nil] at this
      exact ⟨_, rfl, by rw [← this]; exact O2.out, b2⟩
    | succ r =>
      have hm : m < k := by omega
      have hpl : pre.length ≤ 8 := by
        have := congrArg List.length HP.out
        rw [List.length_append, beB_len, beB_len] at this
        omega
      have hs1 : (k : Int) - 1 - (m : Int) = (r : Int) := by omega
      clear hr
      go_wp2_with (at_builtin; refine app_b (w0 := w) (base := base) (l := l ++ pre) (m := [dig n r]) rfl (.tmp 13) (.tmp 23) rfl rfl rfl (O2.out.alloc _) (rb_dig wr _ _ (dig_val n r)) (b2.alloc (by have := b2.size; omega) _) (by have := b2.size; simp; omega) (by simp; omega) ?_; intro v4 w4 o4 b4 _ _; have O4 := Lib.hid o4; clear o4)
      go_roundw
      case rel => exact ⟨m + 1, r, pre ++ [dig n r], by omega, by go_num, Lib.hid (by have := HP.out; simpa [beB] using this), Lib.hid (by have := O4.out; rwa [List.append_assoc] at this), b4⟩
      case measure => simp [intOf]; omega

theorem or_lem (z b : Nat) (hz : z < 2 ^ 48) (hb : b < 256) : bits BinOp.or IntKind.i64 (wrap64 ((z : Int) * 256)) (wrap64 (b : Int)) = ((z * 256 + b : Nat) : Int) := by
  have h1 : wrap64 ((z : Int) * 256) = ((z * 256 : Nat) : Int) := by unfold wrap64; omega
  have h2 : wrap64 (b : Int) = ((b : Nat) : Int) := by unfold wrap64; omega
  have h3 : (z * 256) ||| b = z * 256 + b := by
    have := Nat.shiftLeft_add_eq_or_of_lt (i := 8) (b := b) (by omega) z
    rw [Nat.shiftLeft_eq] at this
    exact this.symm
  rw [h1, h2]
  have e64 : IntKind.i64.bits = 64 := rfl
  have hm : (BitVec.ofInt IntKind.i64.bits ((z * 256 : Nat) : Int) ||| BitVec.ofInt IntKind.i64.bits ((b : Nat) : Int)).toNat = z * 256 + b := by
    rw [BitVec.toNat_or, BitVec.ofInt_natCast, BitVec.ofInt_natCast, BitVec.toNat_ofNat, BitVec.toNat_ofNat, e64, Nat.mod_eq_of_lt (by omega), Nat.mod_eq_of_lt (by omega), h3]
  show IntKind.i64.wrap (((BitVec.ofInt IntKind.i64.bits ((z * 256 : Nat) : Int) ||| BitVec.ofInt IntKind.i64.bits ((b : Nat) : Int)).toNat : Nat) : Int) = _
  rw [hm]
  exact IntWalk.i64_in _ (by omega)

/-- The number that bytes are, the highest first. -/
def natB (l : List UInt8) : Nat := l.foldl (fun a b => a * 256 + b.toNat) 0
theorem natB_snoc (l : List UInt8) (b : UInt8) : natB (l ++ [b]) = natB l * 256 + b.toNat := by simp [natB]
theorem natB_lt (l : List UInt8) : natB l < 256 ^ l.length := by
  have key : ∀ (l : List UInt8) (a : Nat), l.foldl (fun a b => a * 256 + b.toNat) a < (a + 1) * 256 ^ l.length := by
    intro l
    induction l with
    | nil => intro a; simp
    | cons b r ih =>
      intro a
      simp only [List.foldl_cons, List.length_cons]
      refine Nat.lt_of_lt_of_le (ih _) ?_
      have hb : b.toNat < 256 := UInt8.toNat_lt b
      rw [Nat.pow_succ, Nat.mul_comm (256 ^ r.length) 256, ← Nat.mul_assoc]
      exact Nat.mul_le_mul_right _ (by omega)
  unfold natB
  simpa using key l 0

theorem ba_at (s : ByteArray) (k : Nat) (h : k < s.size) : s.data.toList[k]? = some s[k] := by
  have h' : k < s.data.size := h
  rw [Array.getElem?_toList, Array.getElem?_eq_getElem h']
  rfl

set_option maxRecDepth 100000 in
set_option maxHeartbeats 1000000 in
theorem big_c {w : World} (s : ByteArray) (hs : s.size ≤ 7) :
    Calls Tryd.prog 23 #[.string s] w fun e w' => e = .returned (.int .i64 (natB s.data.toList)) ∧ w = w' := by
  have hsl : s.data.toList.length = s.size := by rw [Array.length_toList]; rfl
  have HSL := Lib.hid hsl
  clear hsl
  go_enter Tryd.func23, Tryd.ntmps23
  go_wp2
  go_loop [3, 7] (fun x i => ∃ k : Nat, k ≤ s.size ∧ i = .int .i64 k ∧ x = .int .i64 (natB (s.data.toList.take k))) (fun _ i => s.size - (intOf i).toNat)
  case atStart => exact ⟨0, Nat.zero_le _, rfl, rfl⟩
  case round =>
    obtain ⟨k, hk, rfl, rfl⟩ := hrel
    by_cases hlt : k < s.size
    · have hlt' : (k : Int) < s.size := by omega
      have hz : natB (s.data.toList.take k) < 2 ^ 48 := by
        refine Nat.lt_of_lt_of_le (natB_lt _) ?_
        have : (s.data.toList.take k).length ≤ 6 := by rw [List.length_take]; omega
        calc 256 ^ (s.data.toList.take k).length ≤ 256 ^ 6 := Nat.pow_le_pow_right (by omega) this
          _ = 2 ^ 48 := by decide
      have hor := or_lem _ s[k].toNat hz (UInt8.toNat_lt _)
      have hnx : natB (s.data.toList.take (k + 1)) = natB (s.data.toList.take k) * 256 + s[k].toNat := by
        rw [List.take_add_one, ba_at s k hlt]
        exact natB_snoc _ _
      have HNX := Lib.hid hnx
      clear hnx hz
      go_wp2
      go_round
      case rel => exact ⟨k + 1, by omega, by go_num, by rw [HNX.out, Int.natCast_add, Int.natCast_mul]; rfl⟩
      case measure => simp [intOf]; omega
    · have hd : s.data.toList.take k = s.data.toList := List.take_of_length_le (by have := HSL.out; omega)
      rw [hd]
      go_wp2
      go_ret
      exact ⟨rfl, rfl⟩
end Go.Proofs.YtbniandbmabdbaaDoor.Af
