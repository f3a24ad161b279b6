/- Layer 16: big, of as many as eight bytes; ReadHead. -/
import Derived.Test.YtbniandbmabdbaaDoorAhA
import Derived.Test.YtbniandbmabdbaaDoorTkF
namespace Go.Proofs.YtbniandbmabdbaaDoor
open Go Go.RowKit
set_option linter.unusedSimpArgs false
set_option linter.unusedVariables false

theorem orw_lem (z b : Nat) (hz : z < 2 ^ 56) (hb : b < 256) : bits BinOp.or IntKind.i64 (wrap64 ((z : Int) * 256)) (b : Int) = wrap64 ((z * 256 + b : Nat) : Int) := by
  have h3 : (z * 256) ||| b = z * 256 + b := by
    have := Nat.shiftLeft_add_eq_or_of_lt (i := 8) (b := b) (by omega) z
    rw [Nat.shiftLeft_eq] at this
    exact this.symm
  have e64 : IntKind.i64.bits = 64 := rfl
  have e1 : BitVec.ofInt IntKind.i64.bits (wrap64 ((z : Int) * 256)) = BitVec.ofNat IntKind.i64.bits (z * 256) := by
    apply BitVec.eq_of_toNat_eq
    rw [BitVec.toNat_ofInt, BitVec.toNat_ofNat, e64]
    unfold wrap64
    omega
  have hm : (BitVec.ofNat IntKind.i64.bits (z * 256) ||| BitVec.ofInt IntKind.i64.bits ((b : Nat) : Int)).toNat = z * 256 + b := by
    rw [BitVec.toNat_or, BitVec.ofInt_natCast, BitVec.toNat_ofNat, BitVec.toNat_ofNat, e64, Nat.mod_eq_of_lt (by omega), Nat.mod_eq_of_lt (by omega), h3]
  show IntKind.i64.wrap (((BitVec.ofInt IntKind.i64.bits (wrap64 ((z : Int) * 256)) ||| BitVec.ofInt IntKind.i64.bits ((b : Nat) : Int)).toNat : Nat) : Int) = _
  rw [e1, hm, IntKind.wrap_i64]
  unfold wrap64
  omega

set_option maxRecDepth 100000 in
set_option maxHeartbeats 1000000 in
theorem bigW_c {w : World} (s : ByteArray) (hs : s.size ≤ 8) :
    Calls Tryd.prog 23 #[.string s] w fun e w' => e = .returned (.int .i64 (wrap64 (natB s.data.toList))) ∧ w = w' := by
  have HSL := Lib.hid (ba_size s)
  go_enter Tryd.func23, Tryd.ntmps23
  go_wp2
  go_loop [3, 7] (fun x i => ∃ (k : Nat) (a : Int), k ≤ s.size ∧ i = .int .i64 k ∧ x = .int .i64 a ∧ Hid (a = wrap64 (natB (s.data.toList.take k)))) (fun _ i => s.size - (intOf i).toNat)
  case atStart => exact ⟨0, 0, Nat.zero_le _, rfl, rfl, Lib.hid (by simp [natB, wrap64])⟩
  case round =>
    obtain ⟨k, a, hk, rfl, rfl, HA⟩ := hrel
    by_cases hlt : k < s.size
    · have hlt' : (k : Int) < s.size := by omega
      obtain ⟨z, hz⟩ : ∃ z, z = natB (s.data.toList.take k) := ⟨_, rfl⟩
      have hz56 : z < 2 ^ 56 := by
        rw [hz]
        refine Nat.lt_of_lt_of_le (natB_lt _) ?_
        have : (s.data.toList.take k).length ≤ 7 := by rw [List.length_take]; omega
        calc 256 ^ (s.data.toList.take k).length ≤ 256 ^ 7 := Nat.pow_le_pow_right (by omega) this
          _ = 2 ^ 56 := by decide
      have ha : a = z := by
        rw [HA.out, ← hz]
        have h2 : z < 72057594037927936 := hz56
        unfold wrap64
        omega
      subst ha
      have hor := orw_lem z s[k].toNat hz56 (UInt8.toNat_lt _)
      have hwb : wrap64 ((s[k].toNat : Nat) : Int) = (s[k].toNat : Int) := by have := UInt8.toNat_lt s[k]; unfold wrap64; omega
      have hnx : natB (s.data.toList.take (k + 1)) = z * 256 + s[k].toNat := by
        rw [List.take_add_one, ba_at s k hlt, hz]
        exact natB_snoc _ _
      obtain ⟨y, hy⟩ : ∃ y, y = wrap64 ((z : Int) * 256) := ⟨_, rfl⟩
      obtain ⟨v, hv⟩ : ∃ v, v = wrap64 ((z * 256 + s[k].toNat : Nat) : Int) := ⟨_, rfl⟩
      rw [← hy, ← hv] at hor
      have hy' := hy.symm
      have HV := Lib.hid hv
      have HNX := Lib.hid hnx
      clear hnx hz hy hv hz56 HA
      go_wp2
      go_round
      case rel => exact ⟨k + 1, v, by omega, by go_num, rfl, Lib.hid (by rw [HV.out, HNX.out])⟩
      case measure => simp [intOf]; omega
    · have hd : s.data.toList.take k = s.data.toList := List.take_of_length_le (by have := HSL.out; omega)
      rw [hd] at HA
      go_wp2
      go_ret
      refine ⟨?_, rfl⟩
      show Ending.returned (Value.int .i64 a) = _
      rw [HA.out]
theorem bigN_c {w : World} (s : ByteArray) (hs : s.size ≤ 7) :
    Calls Tryd.prog 23 #[.string s] w fun e w' => e = .returned (.int .i64 (natB s.data.toList)) ∧ w = w' := Af.big_c s hs

/-- What ReadHead answers of bytes: an error, or the size, the properties, the mode. -/
inductive RH where
  | err (n : Nat)
  | ok (size : Nat) (ps : List Prp) (two : Bool)
def fld (s : ByteArray) (a b : Nat) : Nat := natB (s.extract a b).data.toList
/-- Behind the table. -/
def rh2 (size flags : Nat) (ps : List Prp) (r : ByteArray) : RH :=
  if flags = 4096 ∨ flags = 12288 then
    (if r.size = 1 ∧ (r = ⟨#[1]⟩ ∨ r = ⟨#[2]⟩) then (if size ≤ 1024 then .ok size ps (decide (r = ⟨#[2]⟩)) else .err 3) else .err 11)
  else (if r.size = 0 then (if size ≤ 1024 then .ok size ps false else .err 3) else .err 11)
/-- Behind the head's own fields: first, second, fourth and fifth field, and the rest. -/
def rhQ (a b n f : Nat) (r0 : ByteArray) : RH :=
  if a ≠ 60 then .err 11
  else if b ≠ 0 then .err 11
  else if f = 0 ∨ f = 4096 then rh2 n f [] r0
  else if f = 8192 ∨ f = 12288 then
    match tableP r0 with
    | some (ps, r) => rh2 n f ps r
    | none => .err 11
  else .err 11
def rhP (s : ByteArray) : RH :=
  if s.size < 14 then .err 11 else rhQ (fld s 0 2) (fld s 2 4) (fld s 4 12) (fld s 12 14) (s.extract 14 s.size)
def RHPost (w : World) (o : RH) (e : Ending) (w' : World) : Prop :=
  Below w.heap.size w w' ∧ match o with
    | .err n => e = .returned (.tuple #[.int .i64 0, .slice none 0 0, .bool false, .int .i64 n])
    | .ok size ps two => ∃ v, e = .returned (.tuple #[.int .i64 size, v, .bool two, .int .i64 0]) ∧ OwnP w' w.heap.size v ps
theorem rh_err {w w' : World} {o : RH} {n : Nat} (h : o = .err n) (b : Below w.heap.size w w') : RHPost w o (.returned (.tuple #[.int .i64 0, .slice none 0 0, .bool false, .int .i64 n])) w' := by
  subst h
  exact ⟨b, rfl⟩
theorem rh_ok {w w' : World} {o : RH} {size : Nat} {ps : List Prp} {two : Bool} {v : Value} (h : o = .ok size ps two) (b : Below w.heap.size w w') (hv : OwnP w' w.heap.size v ps) : RHPost w o (.returned (.tuple #[.int .i64 size, v, .bool two, .int .i64 0])) w' := by
  subst h
  exact ⟨b, v, rfl, hv⟩
end Go.Proofs.YtbniandbmabdbaaDoor
