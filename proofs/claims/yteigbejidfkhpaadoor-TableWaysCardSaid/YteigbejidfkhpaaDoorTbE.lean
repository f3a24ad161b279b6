/- Layer 15: a float's bytes. -/
import Derived.Test.YteigbejidfkhpaaDoorTbC
import Derived.Test.YteigbejidfkhpaaDoorTbD
import Derived.Laws.FloatBits
namespace Go.Proofs.YteigbejidfkhpaaDoor
open Go Go.RowKit
set_option linter.unusedSimpArgs false
set_option linter.unusedVariables false

def realB (r : Nat) : List UInt8 :=
  match narB r with
  | some n => 102 :: beB n 4
  | none => 100 :: beB r 8
theorem realB_len (r : Nat) : (realB r).length ≤ 9 := by
  unfold realB
  split <;> simp [beB_len]
theorem narB_lt {r n : Nat} (h : narB r = some n) : n < 4294967296 := by
  have hw : ∀ d, Ieee.single.write d < 4294967296 := fun d => Ieee.Format.write_lt Ieee.single d
  unfold narB at h
  split at h
  · injection h with h; omega
  · split at h
    · cases h
    · injection h with h; rw [← h]; exact hw _
    · split at h
      · cases h
      · split at h
        · split at h
          · injection h with h; rw [← h]; exact hw _
          · cases h
        · cases h

theorem tableBig_c2 {w : World} {base : Nat} {v : Value} {l : List UInt8} (h : OB w base v l) (hB : base ≤ w.heap.size) (hl : l.length ≤ 70368744177664) (n k : Nat) (hn : n < 18446744073709551616) (hk : k ≤ 8) (ni ki : Int) (hni : ni = (n : Int)) (hki : ki = (k : Int)) :
    Calls Tryd.prog 28 #[v, .int .u64 ni, .int .i64 ki] w fun e w' => ∃ v', e = .returned v' ∧ OB w' base v' (l ++ beB n k) ∧ Below base w w' := by
  subst hni hki
  exact tableBig_c h hB hl n hn k hk

set_option maxRecDepth 100000 in
set_option maxHeartbeats 2000000 in
theorem real_c {w : World} {base : Nat} {v : Value} {l : List UInt8} (h : OB w base v l) (hB : base ≤ w.heap.size) (hl : l.length ≤ 35184372088832) (r : Nat) (hr : r < 18446744073709551616) :
    Calls Tryd.prog 31 #[v, .float .f64 r] w fun e w' => ∃ v', e = .returned v' ∧ OB w' base v' (l ++ realB r) ∧ Below base w w' := by
  have H := Lib.hid h
  clear h
  have HN := Lib.hid (narrow_c (w := w) r hr)
  cases hn : narB r with
  | some n =>
    rw [hn] at HN
    have hrb : realB r = 102 :: beB n 4 := by unfold realB; rw [hn]
    have hn32 := narB_lt hn
    rw [hrb]
    have HNB := Lib.hid hn32
    clear hrb hn hn32
    go_enter Tryd.func31, Tryd.ntmps31
    go_wp2_with fail
    refine (HN.out).mono ?_
    rintro e w1 ⟨rfl, b1⟩
    have o1 := own_below H.out b1
    have B1 : Below base w w1 := b1.mono hB
    have hs1 : base ≤ w1.heap.size := Nat.le_trans hB b1.size
    have O1 := Lib.hid (show OB w1 base v l from o1)
    have hnI : (n : Int) < 4294967296 := by have := HNB.out; omega
    clear o1 b1
    go_wp2_with (at_builtin; refine app_b (w0 := w) (base := base) (l := l) (m := [102]) rfl (.tmp 13) (.tmp 14) rfl rfl rfl (O1.out.alloc _) (rb_one w1 102) (B1.alloc hs1 _) (by simp; omega) (by simp; omega) ?_; intro v2 w2 o2 b2 _ _; have O2 := Lib.hid o2; clear o2)
    refine (tableBig_c2 O2.out (Nat.le_trans hB b2.size) (by simp; omega) n 4 (by have := HNB.out; omega) (by omega) _ 4 rfl rfl).mono ?_
    rintro e w3 ⟨v3, rfl, o3, b3⟩
    go_wp2_with fail
    go_ret
    exact ⟨v3, rfl, by have := o3; simpa using this, b2.trans b3⟩
  | none =>
    rw [hn] at HN
    have hrb : realB r = 100 :: beB r 8 := by unfold realB; rw [hn]
    have q64 := bits64_run
    rw [hrb]
    clear hrb hn
    go_enter Tryd.func31, Tryd.ntmps31
    go_wp2_with fail
    refine (HN.out).mono ?_
    rintro e w1 ⟨rfl, b1⟩
    have o1 := own_below H.out b1
    have B1 : Below base w w1 := b1.mono hB
    have hs1 : base ≤ w1.heap.size := Nat.le_trans hB b1.size
    have O1 := Lib.hid (show OB w1 base v l from o1)
    clear o1 b1
    go_wp2_with (at_builtin; refine app_b (w0 := w) (base := base) (l := l) (m := [100]) rfl (.tmp 19) (.tmp 20) rfl rfl rfl (O1.out.alloc _) (rb_one w1 100) (B1.alloc hs1 _) (by simp; omega) (by simp; omega) ?_; intro v2 w2 o2 b2 _ _; have O2 := Lib.hid o2; clear o2)
    refine (tableBig_c2 O2.out (Nat.le_trans hB b2.size) (by simp; omega) r 8 hr (by omega) _ 8 rfl rfl).mono ?_
    rintro e w3 ⟨v3, rfl, o3, b3⟩
    go_wp2_with fail
    go_ret
    exact ⟨v3, rfl, by have := o3; simpa using this, b2.trans b3⟩
end Go.Proofs.YteigbejidfkhpaaDoor
