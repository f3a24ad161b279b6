/- Plain law: the order of values is one. -/
import Derived.Test.YtcehkaombanhaaaGreatDoorTbC
import Derived.Lib.Small
import Derived.Lib.Bytealg
namespace Go.Proofs.YtcehkaombanhaaaGreatDoor
open Go Go.RowKit
set_option linter.unusedSimpArgs false
set_option linter.unusedVariables false

/-- A comparison of all that there is. -/
structure Cmp3 {α : Type} (c : α → α → Int) : Prop where
  tri : ∀ x y, c x y = -1 ∨ c x y = 0 ∨ c x y = 1
  anti : ∀ x y, c x y = - c y x
  trans : ∀ x y z, c x y ≤ 0 → c y z ≤ 0 → c x z ≤ 0
def lexC {α : Type} (c d : α → α → Int) (x y : α) : Int := if c x y = 0 then d x y else c x y
theorem lexC_cmp {α : Type} {c d : α → α → Int} (hc : Cmp3 c) (hd : Cmp3 d) : Cmp3 (lexC c d) := by
  refine ⟨fun x y => ?_, fun x y => ?_, fun x y z => ?_⟩
  · unfold lexC
    split
    · exact hd.tri x y
    · exact hc.tri x y
  · unfold lexC
    have h1 := hc.anti x y
    have h2 := hd.anti x y
    split
    · rw [if_pos (by omega)]; exact h2
    · rw [if_neg (by omega)]; exact h1
  · unfold lexC
    have a1 := hc.anti x z
    have a2 := hc.anti x y
    have a3 := hc.anti y z
    have t1 := hc.trans x y z
    have t2 := hc.trans z x y
    have t3 := hc.trans y z x
    have t4 := hd.trans x y z
    split <;> split <;> split <;> intros <;> omega
theorem Cmp3.pull {α β : Type} {c : α → α → Int} (h : Cmp3 c) (f : β → α) : Cmp3 (fun x y => c (f x) (f y)) :=
  ⟨fun x y => h.tri _ _, fun x y => h.anti _ _, fun x y z => h.trans _ _ _⟩
theorem lexC_zero {α : Type} {c d : α → α → Int} {x y : α} : lexC c d x y = 0 ↔ c x y = 0 ∧ d x y = 0 := by
  unfold lexC
  split
  · constructor
    · intro h; exact ⟨by assumption, h⟩
    · exact fun h => h.2
  · constructor
    · intro h; exact absurd h (by assumption)
    · intro h; exact absurd h.1 (by assumption)

theorem ci_cmp : Cmp3 Lib.compareInt := by
  refine ⟨fun x y => ?_, fun x y => ?_, fun x y z => ?_⟩ <;> unfold Lib.compareInt
  · split
    · exact .inl rfl
    · split
      · exact .inr (.inr rfl)
      · exact .inr (.inl rfl)
  · split <;> split <;> (try split) <;> (try split) <;> first | rfl | (exfalso; omega)
  · split <;> split <;> split <;> (try split) <;> (try split) <;> (try split) <;> intros <;> first | omega | rfl
theorem ci_zero {x y : Int} : Lib.compareInt x y = 0 ↔ x = y := by
  unfold Lib.compareInt
  split
  · constructor <;> intro h
    · exact absurd h (by decide)
    · omega
  · split
    · constructor <;> intro h
      · exact absurd h (by decide)
      · omega
    · constructor <;> intro h <;> omega

theorem cb_tri : ∀ a b : List UInt8, Lib.compareBytes a b = -1 ∨ Lib.compareBytes a b = 0 ∨ Lib.compareBytes a b = 1
  | [], [] => .inr (.inl rfl)
  | [], _ :: _ => .inl rfl
  | _ :: _, [] => .inr (.inr rfl)
  | a :: la, b :: lb => by
    unfold Lib.compareBytes
    split
    · exact .inl rfl
    · split
      · exact .inr (.inr rfl)
      · exact cb_tri la lb
theorem cb_anti : ∀ a b : List UInt8, Lib.compareBytes a b = - Lib.compareBytes b a
  | [], [] => rfl
  | [], _ :: _ => rfl
  | _ :: _, [] => rfl
  | a :: la, b :: lb => by
    unfold Lib.compareBytes
    simp only [UInt8.lt_iff_toNat_lt]
    split
    · rw [if_neg (by omega)]
    · split
      · rfl
      · exact cb_anti la lb
theorem cb_zero : ∀ a b : List UInt8, Lib.compareBytes a b = 0 ↔ a = b
  | [], [] => ⟨fun _ => rfl, fun _ => rfl⟩
  | [], _ :: _ => ⟨fun h => absurd h (by show ¬ (-1 : Int) = 0; decide), fun h => by cases h⟩
  | _ :: _, [] => ⟨fun h => absurd h (by show ¬ (1 : Int) = 0; decide), fun h => by cases h⟩
  | a :: la, b :: lb => by
    unfold Lib.compareBytes
    simp only [UInt8.lt_iff_toNat_lt]
    split
    · rename_i h1
      constructor <;> intro h
      · exact absurd h (by decide)
      · injection h with h _; subst h; exact absurd h1 (Nat.lt_irrefl _)
    · split
      · rename_i h1
        constructor <;> intro h
        · exact absurd h (by decide)
        · injection h with h _; subst h; exact absurd h1 (Nat.lt_irrefl _)
      · rename_i h1 h2
        have e : a = b := UInt8.toNat_inj.1 (by omega)
        subst e
        rw [cb_zero la lb]
        exact ⟨fun h => by rw [h], fun h => by injection h⟩
theorem cb_trans : ∀ a b c : List UInt8, Lib.compareBytes a b ≤ 0 → Lib.compareBytes b c ≤ 0 → Lib.compareBytes a c ≤ 0
  | [], _, [] => fun _ _ => by decide
  | [], _, _ :: _ => fun _ _ => by show (-1 : Int) ≤ 0; decide
  | _ :: _, [], _ => fun h => absurd h (by show ¬ (1 : Int) ≤ 0; decide)
  | _ :: _, _ :: _, [] => fun _ h => absurd h (by show ¬ (1 : Int) ≤ 0; decide)
  | a :: la, b :: lb, c :: cs => by
    have ih := cb_trans la lb cs
    unfold Lib.compareBytes
    simp only [UInt8.lt_iff_toNat_lt]
    intro h1 h2
    by_cases e1 : a.toNat < c.toNat
    · rw [if_pos e1]; decide
    · rw [if_neg e1]
      by_cases e2 : a.toNat < b.toNat
      · rw [if_neg (by omega), if_pos (by omega)] at h2
        exact absurd h2 (by decide)
      · rw [if_neg e2] at h1
        by_cases e3 : b.toNat < a.toNat
        · rw [if_pos e3] at h1; exact absurd h1 (by decide)
        · rw [if_neg e3] at h1
          by_cases e4 : b.toNat < c.toNat
          · exact absurd e1 (by omega)
          · rw [if_neg e4] at h2
            by_cases e5 : c.toNat < b.toNat
            · rw [if_pos e5] at h2; exact absurd h2 (by decide)
            · rw [if_neg e5] at h2
              rw [if_neg (by omega)]
              exact ih h1 h2
theorem cb_cmp : Cmp3 Lib.compareBytes := ⟨cb_tri, cb_anti, cb_trans⟩

/-- A float's place. -/
def keyB (r : Nat) : Nat := if 9223372036854775808 ≤ canonR r then 18446744073709551615 - canonR r else canonR r + 9223372036854775808
theorem canon_lt {r : Nat} (h : r < 18446744073709551616) : canonR r < 18446744073709551616 := by
  unfold canonR
  split
  · decide
  · exact h
theorem key_lt {r : Nat} (h : r < 18446744073709551616) : keyB r < 18446744073709551616 := by
  have := canon_lt h
  unfold keyB
  split <;> omega
theorem key_inj {r s : Nat} (hr : r < 18446744073709551616) (hs : s < 18446744073709551616) (h : keyB r = keyB s) : canonR r = canonR s := by
  have := canon_lt hr
  have := canon_lt hs
  unfold keyB at h
  split at h <;> split at h <;> omega
theorem key_same {r s : Nat} (h : canonR r = canonR s) : keyB r = keyB s := by unfold keyB; rw [h]

/-- A value. -/
structure Val where
  k : Int
  n : Int
  t : ByteArray
  r : Nat
def Val.v (a : Val) : Value := .agg #[.int .i64 a.k, .int .i64 a.n, .string a.t, .float .f64 a.r]
def Val.good (a : Val) : Bool := goodB a.k a.n a.t a.r
def valC : Val → Val → Int :=
  lexC (fun a b => Lib.compareInt a.k b.k) (lexC (fun a b => Lib.compareInt a.n b.n) (lexC (fun a b => Lib.compareBytes a.t.data.toList b.t.data.toList) (fun a b => Lib.compareInt (keyB a.r) (keyB b.r))))
theorem valC_cmp : Cmp3 valC :=
  lexC_cmp (ci_cmp.pull _) (lexC_cmp (ci_cmp.pull _) (lexC_cmp (cb_cmp.pull fun a : Val => a.t.data.toList) (ci_cmp.pull fun a : Val => ((keyB a.r : Nat) : Int))))
/-- The first that is not 0. -/
def orI : List Int → Int
  | [] => 0
  | a :: l => if a = 0 then orI l else a
theorem valC_or (a b : Val) : valC a b = orI [Lib.compareInt a.k b.k, Lib.compareInt a.n b.n, Lib.compareBytes a.t.data.toList b.t.data.toList, Lib.compareInt (keyB a.r) (keyB b.r)] := by
  unfold valC lexC orI orI orI orI orI
  split
  · split
    · split
      · split
        · assumption
        · rfl
      · rfl
    · rfl
  · rfl
theorem canon_zero : canonR 0 = 0 := by decide +kernel
theorem good_canon {k n : Int} {t : ByteArray} {r : Nat} (h : goodB k n t r = true) : r = canonR r := by
  rcases good_of h with ⟨_, _, rfl⟩ | ⟨_, _, rfl, _⟩ | ⟨_, _, rfl, _⟩ | ⟨_, _, _, h⟩
  · exact canon_zero.symm
  · exact canon_zero.symm
  · exact canon_zero.symm
  · exact h
theorem valC_zero {a b : Val} (ha : a.good = true) (hb : b.good = true) (ra : a.r < 18446744073709551616) (rb : b.r < 18446744073709551616) : valC a b = 0 ↔ a = b := by
  unfold valC
  simp only [lexC_zero, ci_zero, cb_zero]
  constructor
  · rintro ⟨h1, h2, h3, h4⟩
    have h5 := key_inj ra rb (by omega)
    rw [← good_canon ha, ← good_canon hb] at h5
    obtain ⟨k, n, t, r⟩ := a
    obtain ⟨k', n', t', r'⟩ := b
    simp only at h1 h2 h3 h5
    have h6 := ba_ext h3
    subst h1 h2 h5 h6
    rfl
  · rintro rfl
    exact ⟨rfl, rfl, rfl, rfl⟩
end Go.Proofs.YtcehkaombanhaaaGreatDoor
