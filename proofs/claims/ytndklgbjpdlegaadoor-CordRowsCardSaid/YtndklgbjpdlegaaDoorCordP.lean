/- Layer 1, plain: what is put is read as it; what is read is what was put. No program here. -/
import Derived.Lib.AtoiAllCases
import Derived.Lib.ItoaLen
import Derived.Lib.Bytealg
namespace Go.Proofs.YtndklgbjpdlegaaDoor.P
open Go
set_option linter.unusedVariables false

theorem digit_toNat (d : Nat) (h : d < 10) : (UInt8.ofNat (48 + d)).toNat = 48 + d := by
  simp [UInt8.toNat_ofNat']; omega

theorem parse_append : ∀ (l r : List UInt8) (acc a : Nat), Lib.parseUint10 acc l = .ok a → Lib.parseUint10 acc (l ++ r) = Lib.parseUint10 a r
  | [], r, acc, a, h => by simp only [Lib.parseUint10] at h; injection h with h; rw [h]; rfl
  | c :: l, r, acc, a, h => by
    simp only [Lib.parseUint10, List.cons_append] at h ⊢
    split at h
    · rename_i h1
      rw [if_pos h1]
      split at h
      · cases h
      · rename_i h2
        rw [if_neg h2]
        split at h
        · cases h
        · rename_i h3
          rw [if_neg h3]
          exact parse_append l r _ a h
    · cases h

theorem parse_dec : ∀ (k u : Nat), u < 10 ^ k → u < 18446744073709551616 → Lib.parseUint10 0 (Lib.decDigits u) = .ok u
  | 0, u, hk, hu => by
    have : u = 0 := by simpa using hk
    subst this
    decide +kernel
  | k + 1, u, hk, hu => by
    by_cases h : u < 10
    · rw [Lib.decDigits, dif_pos h]
      have hd := digit_toNat u h
      simp only [Lib.parseUint10, hd]
      rw [if_pos (by omega), if_neg (by omega), if_neg (by omega)]
      congr 1
      omega
    · have hq : u / 10 < 10 ^ k := by
        have : u < 10 ^ k * 10 := by rw [← Nat.pow_succ]; exact hk
        omega
      have ih := parse_dec k (u / 10) hq (by omega)
      rw [Lib.decDigits, dif_neg h, parse_append _ _ _ _ ih]
      have hd := digit_toNat (u % 10) (by omega)
      simp only [Lib.parseUint10, hd]
      rw [if_pos (by omega), if_neg (by omega), if_neg (by omega)]
      congr 1
      omega

theorem dec_ne (u : Nat) : Lib.decDigits u ≠ [] := by
  rw [Lib.decDigits]
  split <;> simp

theorem parseMag_dec (u : Nat) (hu : u < 18446744073709551616) : Lib.parseMag (Lib.decDigits u) = .ok u := by
  unfold Lib.parseMag
  rw [if_neg (dec_ne u)]
  exact parse_dec 20 u (by omega) hu

theorem dec_digits : ∀ (k u : Nat), u < 10 ^ k → ∀ c ∈ Lib.decDigits u, 48 ≤ c.toNat ∧ c.toNat ≤ 57
  | 0, u, hk, c, hc => by
    have : u = 0 := by simpa using hk
    subst this
    rw [Lib.decDigits, dif_pos (by omega)] at hc
    simp at hc
    subst hc
    decide
  | k + 1, u, hk, c, hc => by
    rw [Lib.decDigits] at hc
    split at hc
    · rename_i h
      rw [List.mem_singleton] at hc
      rw [hc, digit_toNat u h]
      omega
    · rename_i h
      have hq : u / 10 < 10 ^ k := by
        have : u < 10 ^ k * 10 := by rw [← Nat.pow_succ]; exact hk
        omega
      rcases List.mem_append.1 hc with hc | hc
      · exact dec_digits k (u / 10) hq c hc
      · rw [List.mem_singleton] at hc
        rw [hc, digit_toNat _ (by omega)]
        omega

theorem atoi_itoa (n : Int) (h0 : -9223372036854775808 ≤ n) (h1 : n ≤ 9223372036854775807) : Lib.atoiAll (Lib.itoa n) = .ok n := by
  unfold Lib.itoa
  split
  · rename_i hn
    rw [Lib.atoiAll_minus, parseMag_dec _ (by omega)]
    unfold Lib.signed
    simp only
    rw [if_neg (by omega)]
    congr 1
    omega
  · rename_i hn
    have hp := parseMag_dec n.toNat (by omega)
    obtain ⟨c, r, hd⟩ := List.exists_cons_of_ne_nil (dec_ne n.toNat)
    have hc := dec_digits 20 n.toNat (by omega) c (by rw [hd]; simp)
    rw [hd] at hp ⊢
    rw [Lib.atoiAll_plain c r (by omega) (by omega), hp]
    unfold Lib.signless
    simp only
    rw [if_neg (by omega)]
    congr 1
    omega

/-- No mark stands in a numeral. -/
theorem itoa_mark (n : Int) (h0 : -9223372036854775808 ≤ n) (h1 : n ≤ 9223372036854775807) (c : UInt8) (hc : c ∈ Lib.itoa n) : c ≠ 59 ∧ c ≠ 58 := by
  have key : ∀ u : Nat, u < 10 ^ 20 → ∀ c ∈ Lib.decDigits u, c ≠ 59 ∧ c ≠ 58 := by
    intro u hu c hc
    have := dec_digits 20 u hu c hc
    constructor <;> (rintro rfl; revert this; decide)
  unfold Lib.itoa at hc
  split at hc
  · rcases List.mem_cons.1 hc with rfl | hc
    · decide
    · exact key _ (by omega) c hc
  · exact key _ (by omega) c hc

theorem itoa_len (n : Int) (h0 : -9223372036854775808 ≤ n) (h1 : n ≤ 9223372036854775807) : (Lib.itoa n).length ≤ 20 := by
  have key : ∀ u : Nat, u < 10 ^ 19 → (Lib.decDigits u).length ≤ 19 := by
    intro u hu
    rw [Lib.decDigits_length]
    rcases Nat.lt_or_ge 19 (Lib.nDigits u) with h | h
    · exfalso
      have h2 : 10 ^ 19 ≤ 10 ^ (Lib.nDigits u - 1) := Nat.pow_le_pow_right (by omega) (by omega)
      have h3 : 10 ^ (Lib.nDigits u - 1) ≤ u := by
        have : ∀ (k v : Nat), v < 10 ^ k → v ≠ 0 → 10 ^ (Lib.nDigits v - 1) ≤ v := by
          intro k
          induction k with
          | zero => intro v hv h0; simp at hv; omega
          | succ k ih =>
            intro v hv hv0
            by_cases h10 : v < 10
            · rw [Lib.nDigits_small h10]; simp; omega
            · rw [Lib.nDigits_big h10]
              have hq : v / 10 < 10 ^ k := by
                have : v < 10 ^ k * 10 := by rw [← Nat.pow_succ]; exact hv
                omega
              have := ih (v / 10) hq (by omega)
              have hp := Lib.nDigits_pos (v / 10)
              obtain ⟨m, hm⟩ : ∃ m, Lib.nDigits (v / 10) = m + 1 := ⟨Lib.nDigits (v / 10) - 1, by omega⟩
              rw [hm] at this ⊢
              simp only [Nat.add_sub_cancel] at this ⊢
              rw [Nat.pow_succ]
              omega
        refine this 20 u (by omega) ?_
        rintro rfl
        rw [Lib.nDigits_small (by omega)] at h
        omega
      omega
    · exact h
  unfold Lib.itoa
  split
  · simp only [List.length_cons]
    have := key n.natAbs (by omega)
    omega
  · have := key n.toNat (by omega)
    omega
end Go.Proofs.YtndklgbjpdlegaaDoor.P
