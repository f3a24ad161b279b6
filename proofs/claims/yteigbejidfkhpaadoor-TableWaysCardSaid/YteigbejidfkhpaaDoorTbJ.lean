/- Layer 15: Form, sizes, fits. -/
import Derived.Test.YteigbejidfkhpaaDoorTbA
import Derived.Deep.DeepCutAuto
import Derived.Deep.CutRange
namespace Go.Proofs.YteigbejidfkhpaaDoor
open Go Go.RowKit
set_option linter.unusedSimpArgs false
set_option linter.unusedVariables false

/-- The form of a method, by class * 256 + number. -/
def formOf (x : Nat) : Option ByteArray :=
  if x = 2570 then some ⟨#[111, 111, 84, 83, 83]⟩
  else if x = 2571 then some ⟨#[84, 115, 83, 115]⟩
  else if x = 2590 then some ⟨#[104, 108, 104]⟩
  else if x = 2591 then some ⟨#[104, 108, 104]⟩
  else if x = 2600 then some ⟨#[115, 115, 98]⟩
  else if x = 2601 then some ⟨#[115]⟩
  else if x = 15381 then some ⟨#[115]⟩
  else if x = 15432 then some ⟨#[115]⟩
  else if x = 2610 then some ⟨#[104, 115, 104, 104]⟩
  else if x = 5160 then some ⟨#[104, 115, 104, 104]⟩
  else if x = 2611 then some ⟨#[]⟩
  else if x = 5161 then some ⟨#[]⟩
  else if x = 12821 then some ⟨#[]⟩
  else if x = 15371 then some ⟨#[]⟩
  else if x = 21771 then some ⟨#[]⟩
  else if x = 23050 then some ⟨#[]⟩
  else if x = 23051 then some ⟨#[]⟩
  else if x = 23060 then some ⟨#[]⟩
  else if x = 23061 then some ⟨#[]⟩
  else if x = 23070 then some ⟨#[]⟩
  else if x = 23071 then some ⟨#[]⟩
  else if x = 5130 then some ⟨#[115]⟩
  else if x = 5131 then some ⟨#[83]⟩
  else if x = 12810 then some ⟨#[104, 115, 98, 84]⟩
  else if x = 12811 then some ⟨#[115, 108, 108]⟩
  else if x = 12820 then some ⟨#[104, 115, 115, 115, 98, 84]⟩
  else if x = 15370 then some ⟨#[108, 104, 98]⟩
  else if x = 15380 then some ⟨#[104, 115, 115, 98, 84]⟩
  else if x = 15400 then some ⟨#[104, 115, 115, 98]⟩
  else if x = 15420 then some ⟨#[115, 76, 98, 115, 115]⟩
  else if x = 15430 then some ⟨#[104, 115, 98]⟩
  else if x = 15431 then some ⟨#[76, 98, 115, 115, 108]⟩
  else if x = 15440 then some ⟨#[76, 98]⟩
  else if x = 15450 then some ⟨#[76, 98]⟩
  else if x = 15480 then some ⟨#[76, 98]⟩
  else if x = 21770 then some ⟨#[98]⟩
  else none
def formCI (c i : Int) : Option ByteArray := if 0 ≤ c ∧ c ≤ 255 ∧ 0 ≤ i ∧ i ≤ 255 then formOf (c.toNat * 256 + i.toNat) else none

theorem or_lem (z b : Nat) (hz : z < 2 ^ 48) (hb : b < 256) : bits BinOp.or IntKind.i64 ((z : Int) * 256) (b : Int) = ((z * 256 + b : Nat) : Int) := by
  have h3 : (z * 256) ||| b = z * 256 + b := by
    have := Nat.shiftLeft_add_eq_or_of_lt (i := 8) (b := b) (by omega) z
    rw [Nat.shiftLeft_eq] at this
    exact this.symm
  rw [show ((z : Int) * 256) = ((z * 256 : Nat) : Int) by omega]
  have e64 : IntKind.i64.bits = 64 := rfl
  have hm : (BitVec.ofInt IntKind.i64.bits ((z * 256 : Nat) : Int) ||| BitVec.ofInt IntKind.i64.bits ((b : Nat) : Int)).toNat = z * 256 + b := by
    rw [BitVec.toNat_or, BitVec.ofInt_natCast, BitVec.ofInt_natCast, BitVec.toNat_ofNat, BitVec.toNat_ofNat, e64, Nat.mod_eq_of_lt (by omega), Nat.mod_eq_of_lt (by omega), h3]
  show IntKind.i64.wrap (((BitVec.ofInt IntKind.i64.bits ((z * 256 : Nat) : Int) ||| BitVec.ofInt IntKind.i64.bits ((b : Nat) : Int)).toNat : Nat) : Int) = _
  rw [hm]
  exact IntWalk.i64_in _ (by omega)

set_option maxRecDepth 100000 in
set_option maxHeartbeats 4000000 in
theorem form_c {w : World} (c i : Int) :
    Calls Tryd.prog 23 #[.int .i64 c, .int .i64 i] w fun e w' => e = .returned (.tuple #[.string ((formCI c i).getD ByteArray.empty), .bool (formCI c i).isSome]) ∧ w = w' := by
  by_cases hr : 0 ≤ c ∧ c ≤ 255 ∧ 0 ≤ i ∧ i ≤ 255
  · have hf : formCI c i = formOf (c.toNat * 256 + i.toNat) := by unfold formCI; rw [if_pos hr]
    obtain ⟨h0, h1, h2, h3⟩ := hr
    obtain ⟨cn, rfl⟩ := Int.eq_ofNat_of_zero_le h0
    obtain ⟨im, rfl⟩ := Int.eq_ofNat_of_zero_le h2
    rw [hf]
    have hor := or_lem cn im (by omega) (by omega)
    obtain ⟨x, hx⟩ : ∃ x : Nat, x = cn * 256 + im := ⟨_, rfl⟩
    rw [← hx] at hor
    rw [show ((cn : Nat) : Int).toNat * 256 + ((im : Nat) : Int).toNat = x from hx.symm]
    clear hf hx
    go_enter Tryd.func23, Tryd.ntmps23
    go_upto_region 4 with fail

    by_cases g0 : x = 2570
    · subst g0
      go_wp2_with fail
      go_ret2
      exact ⟨rfl, rfl⟩
    have n0 : ((x : Int) == 2570) = false := beq_eq_false_iff_ne.2 (by omega)
    by_cases g1 : x = 2571
    · subst g1
      go_wp2_with fail
      go_ret2
      exact ⟨rfl, rfl⟩
    have n1 : ((x : Int) == 2571) = false := beq_eq_false_iff_ne.2 (by omega)
    by_cases g2 : x = 2590
    · subst g2
      go_wp2_with fail
      go_ret2
      exact ⟨rfl, rfl⟩
    have n2 : ((x : Int) == 2590) = false := beq_eq_false_iff_ne.2 (by omega)
    by_cases g3 : x = 2591
    · subst g3
      go_wp2_with fail
      go_ret2
      exact ⟨rfl, rfl⟩
    have n3 : ((x : Int) == 2591) = false := beq_eq_false_iff_ne.2 (by omega)
    by_cases g4 : x = 2600
    · subst g4
      go_wp2_with fail
      go_ret2
      exact ⟨rfl, rfl⟩
    have n4 : ((x : Int) == 2600) = false := beq_eq_false_iff_ne.2 (by omega)
    by_cases g5 : x = 2601
    · subst g5
      go_wp2_with fail
      go_ret2
      exact ⟨rfl, rfl⟩
    have n5 : ((x : Int) == 2601) = false := beq_eq_false_iff_ne.2 (by omega)
    by_cases g6 : x = 15381
    · subst g6
      go_wp2_with fail
      go_ret2
      exact ⟨rfl, rfl⟩
    have n6 : ((x : Int) == 15381) = false := beq_eq_false_iff_ne.2 (by omega)
    by_cases g7 : x = 15432
    · subst g7
      go_wp2_with fail
      go_ret2
      exact ⟨rfl, rfl⟩
    have n7 : ((x : Int) == 15432) = false := beq_eq_false_iff_ne.2 (by omega)
    by_cases g8 : x = 2610
    · subst g8
      go_wp2_with fail
      go_ret2
      exact ⟨rfl, rfl⟩
    have n8 : ((x : Int) == 2610) = false := beq_eq_false_iff_ne.2 (by omega)
    by_cases g9 : x = 5160
    · subst g9
      go_wp2_with fail
      go_ret2
      exact ⟨rfl, rfl⟩
    have n9 : ((x : Int) == 5160) = false := beq_eq_false_iff_ne.2 (by omega)
    by_cases g10 : x = 2611
    · subst g10
      go_wp2_with fail
      go_ret2
      exact ⟨rfl, rfl⟩
    have n10 : ((x : Int) == 2611) = false := beq_eq_false_iff_ne.2 (by omega)
    by_cases g11 : x = 5161
    · subst g11
      go_wp2_with fail
      go_ret2
      exact ⟨rfl, rfl⟩
    have n11 : ((x : Int) == 5161) = false := beq_eq_false_iff_ne.2 (by omega)
    by_cases g12 : x = 12821
    · subst g12
      go_wp2_with fail
      go_ret2
      exact ⟨rfl, rfl⟩
    have n12 : ((x : Int) == 12821) = false := beq_eq_false_iff_ne.2 (by omega)
    by_cases g13 : x = 15371
    · subst g13
      go_wp2_with fail
      go_ret2
      exact ⟨rfl, rfl⟩
    have n13 : ((x : Int) == 15371) = false := beq_eq_false_iff_ne.2 (by omega)
    by_cases g14 : x = 21771
    · subst g14
      go_wp2_with fail
      go_ret2
      exact ⟨rfl, rfl⟩
    have n14 : ((x : Int) == 21771) = false := beq_eq_false_iff_ne.2 (by omega)
    by_cases g15 : x = 23050
    · subst g15
      go_wp2_with fail
      go_ret2
      exact ⟨rfl, rfl⟩
    have n15 : ((x : Int) == 23050) = false := beq_eq_false_iff_ne.2 (by omega)
    by_cases g16 : x = 23051
    · subst g16
      go_wp2_with fail
      go_ret2
      exact ⟨rfl, rfl⟩
    have n16 : ((x : Int) == 23051) = false := beq_eq_false_iff_ne.2 (by omega)
    by_cases g17 : x = 23060
    · subst g17
      go_wp2_with fail
      go_ret2
      exact ⟨rfl, rfl⟩
    have n17 : ((x : Int) == 23060) = false := beq_eq_false_iff_ne.2 (by omega)
    by_cases g18 : x = 23061
    · subst g18
      go_wp2_with fail
      go_ret2
      exact ⟨rfl, rfl⟩
    have n18 : ((x : Int) == 23061) = false := beq_eq_false_iff_ne.2 (by omega)
    by_cases g19 : x = 23070
    · subst g19
      go_wp2_with fail
      go_ret2
      exact ⟨rfl, rfl⟩
    have n19 : ((x : Int) == 23070) = false := beq_eq_false_iff_ne.2 (by omega)
    by_cases g20 : x = 23071
    · subst g20
      go_wp2_with fail
      go_ret2
      exact ⟨rfl, rfl⟩
    have n20 : ((x : Int) == 23071) = false := beq_eq_false_iff_ne.2 (by omega)
    by_cases g21 : x = 5130
    · subst g21
      go_wp2_with fail
      go_ret2
      exact ⟨rfl, rfl⟩
    have n21 : ((x : Int) == 5130) = false := beq_eq_false_iff_ne.2 (by omega)
    by_cases g22 : x = 5131
    · subst g22
      go_wp2_with fail
      go_ret2
      exact ⟨rfl, rfl⟩
    have n22 : ((x : Int) == 5131) = false := beq_eq_false_iff_ne.2 (by omega)
    by_cases g23 : x = 12810
    · subst g23
      go_wp2_with fail
      go_ret2
      exact ⟨rfl, rfl⟩
    have n23 : ((x : Int) == 12810) = false := beq_eq_false_iff_ne.2 (by omega)
    by_cases g24 : x = 12811
    · subst g24
      go_wp2_with fail
      go_ret2
      exact ⟨rfl, rfl⟩
    have n24 : ((x : Int) == 12811) = false := beq_eq_false_iff_ne.2 (by omega)
    by_cases g25 : x = 12820
    · subst g25
      go_wp2_with fail
      go_ret2
      exact ⟨rfl, rfl⟩
    have n25 : ((x : Int) == 12820) = false := beq_eq_false_iff_ne.2 (by omega)
    by_cases g26 : x = 15370
    · subst g26
      go_wp2_with fail
      go_ret2
      exact ⟨rfl, rfl⟩
    have n26 : ((x : Int) == 15370) = false := beq_eq_false_iff_ne.2 (by omega)
    by_cases g27 : x = 15380
    · subst g27
      go_wp2_with fail
      go_ret2
      exact ⟨rfl, rfl⟩
    have n27 : ((x : Int) == 15380) = false := beq_eq_false_iff_ne.2 (by omega)
    by_cases g28 : x = 15400
    · subst g28
      go_wp2_with fail
      go_ret2
      exact ⟨rfl, rfl⟩
    have n28 : ((x : Int) == 15400) = false := beq_eq_false_iff_ne.2 (by omega)
    by_cases g29 : x = 15420
    · subst g29
      go_wp2_with fail
      go_ret2
      exact ⟨rfl, rfl⟩
    have n29 : ((x : Int) == 15420) = false := beq_eq_false_iff_ne.2 (by omega)
    by_cases g30 : x = 15430
    · subst g30
      go_wp2_with fail
      go_ret2
      exact ⟨rfl, rfl⟩
    have n30 : ((x : Int) == 15430) = false := beq_eq_false_iff_ne.2 (by omega)
    by_cases g31 : x = 15431
    · subst g31
      go_wp2_with fail
      go_ret2
      exact ⟨rfl, rfl⟩
    have n31 : ((x : Int) == 15431) = false := beq_eq_false_iff_ne.2 (by omega)
    by_cases g32 : x = 15440
    · subst g32
      go_wp2_with fail
      go_ret2
      exact ⟨rfl, rfl⟩
    have n32 : ((x : Int) == 15440) = false := beq_eq_false_iff_ne.2 (by omega)
    by_cases g33 : x = 15450
    · subst g33
      go_wp2_with fail
      go_ret2
      exact ⟨rfl, rfl⟩
    have n33 : ((x : Int) == 15450) = false := beq_eq_false_iff_ne.2 (by omega)
    by_cases g34 : x = 15480
    · subst g34
      go_wp2_with fail
      go_ret2
      exact ⟨rfl, rfl⟩
    have n34 : ((x : Int) == 15480) = false := beq_eq_false_iff_ne.2 (by omega)
    by_cases g35 : x = 21770
    · subst g35
      go_wp2_with fail
      go_ret2
      exact ⟨rfl, rfl⟩
    have n35 : ((x : Int) == 21770) = false := beq_eq_false_iff_ne.2 (by omega)
    have hnone : formOf x = none := by unfold formOf; rw [if_neg g0, if_neg g1, if_neg g2, if_neg g3, if_neg g4, if_neg g5, if_neg g6, if_neg g7, if_neg g8, if_neg g9, if_neg g10, if_neg g11, if_neg g12, if_neg g13, if_neg g14, if_neg g15, if_neg g16, if_neg g17, if_neg g18, if_neg g19, if_neg g20, if_neg g21, if_neg g22, if_neg g23, if_neg g24, if_neg g25, if_neg g26, if_neg g27, if_neg g28, if_neg g29, if_neg g30, if_neg g31, if_neg g32, if_neg g33, if_neg g34, if_neg g35]
    have HN := Lib.hid hnone
    clear hnone g0 g1 g2 g3 g4 g5 g6 g7 g8 g9 g10 g11 g12 g13 g14 g15 g16 g17 g18 g19 g20 g21 g22 g23 g24 g25 g26 g27 g28 g29 g30 g31 g32 g33 g34 g35
    go_wp2_with fail
    go_ret2
    exact ⟨by rw [HN.out]; rfl, rfl⟩
  · have hf : formCI c i = none := by unfold formCI; rw [if_neg hr]
    rw [hf]
    clear hf
    by_cases h0 : c < 0
    · clear hr
      go_enter Tryd.func23, Tryd.ntmps23
      go_wp2_with fail
      go_ret2
      exact ⟨rfl, rfl⟩
    · have h0' : 0 ≤ c := by omega
      by_cases h1 : 255 < c
      · clear hr h0
        go_enter Tryd.func23, Tryd.ntmps23
        go_wp2_with fail
        go_ret2
        exact ⟨rfl, rfl⟩
      · have h1' : c ≤ 255 := by omega
        by_cases h2 : i < 0
        · clear hr h0 h1
          go_enter Tryd.func23, Tryd.ntmps23
          go_wp2_with fail
          go_ret2
          exact ⟨rfl, rfl⟩
        · have h2' : 0 ≤ i := by omega
          have h3 : 255 < i := by omega
          clear hr h0 h1 h2
          go_enter Tryd.func23, Tryd.ntmps23
          go_wp2_with fail
          go_ret2
          exact ⟨rfl, rfl⟩

/-- The bytes of a number's letter. -/
def sizeOf' (c : Int) : Nat := if c = 111 then 1 else if c = 98 then 1 else if c = 104 then 2 else if c = 108 then 4 else if c = 76 then 8 else 0
set_option maxRecDepth 100000 in
set_option maxHeartbeats 1000000 in
theorem sizes_c {w : World} (c : Int) : Calls Tryd.prog 29 #[.int .i32 c] w fun e w' => e = .returned (.int .i64 (sizeOf' c : Nat)) ∧ w = w' := by

  by_cases g0 : c = 111
  · subst g0
    go_enter Tryd.func29, Tryd.ntmps29
    go_wp2_with fail
    go_ret
    exact ⟨rfl, rfl⟩
  have n0 : (c == 111) = false := beq_eq_false_iff_ne.2 g0
  by_cases g1 : c = 98
  · subst g1
    go_enter Tryd.func29, Tryd.ntmps29
    go_wp2_with fail
    go_ret
    exact ⟨rfl, rfl⟩
  have n1 : (c == 98) = false := beq_eq_false_iff_ne.2 g1
  by_cases g2 : c = 104
  · subst g2
    go_enter Tryd.func29, Tryd.ntmps29
    go_wp2_with fail
    go_ret
    exact ⟨rfl, rfl⟩
  have n2 : (c == 104) = false := beq_eq_false_iff_ne.2 g2
  by_cases g3 : c = 108
  · subst g3
    go_enter Tryd.func29, Tryd.ntmps29
    go_wp2_with fail
    go_ret
    exact ⟨rfl, rfl⟩
  have n3 : (c == 108) = false := beq_eq_false_iff_ne.2 g3
  by_cases g4 : c = 76
  · subst g4
    go_enter Tryd.func29, Tryd.ntmps29
    go_wp2_with fail
    go_ret
    exact ⟨rfl, rfl⟩
  have n4 : (c == 76) = false := beq_eq_false_iff_ne.2 g4
  have h : sizeOf' c = 0 := by unfold sizeOf'; rw [if_neg g0, if_neg g1, if_neg g2, if_neg g3, if_neg g4]
  rw [h]
  clear h g0 g1 g2 g3 g4
  go_enter Tryd.func29, Tryd.ntmps29
  go_wp2_with fail
  go_ret
  exact ⟨rfl, rfl⟩
end Go.Proofs.YteigbejidfkhpaaDoor
