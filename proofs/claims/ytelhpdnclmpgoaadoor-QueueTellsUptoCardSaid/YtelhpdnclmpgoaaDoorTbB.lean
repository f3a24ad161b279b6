/- Layer 7: names, values. -/
import Derived.Test.YtelhpdnclmpgoaaDoorQaA
import Derived.Test.YtelhpdnclmpgoaaDoorShelf
import Derived.Shelf.Strings.SlTrimAscii
namespace Go.Proofs.YtelhpdnclmpgoaaDoor
open Go Go.RowKit
set_option linter.unusedSimpArgs false
set_option linter.unusedVariables false

def letters : ByteArray := ⟨#[97, 98, 99, 100, 101, 102, 103, 104, 105, 106, 107, 108, 109, 110, 111, 112, 113, 114, 115, 116, 117, 118, 119, 120, 121, 122, 48, 49, 50, 51, 52, 53, 54, 55, 56, 57, 45, 95]⟩
def nameB (s : ByteArray) : Bool := decide (0 < s.size) && decide (s.size ≤ 16) && (Lib.trimS s.data.toList letters.data.toList).isEmpty

theorem trim_c {w : World} (s : ByteArray) (hs : s.size ≤ 140737488351232) :
    Calls Tryd.prog 47 #[.string s, .string letters] w fun e w' => e = .returned (.string ⟨(Lib.trimS s.data.toList letters.data.toList).toArray⟩) ∧ Below w.heap.size w w' :=
  Any.strings_Trim_laid Tryd.lays160 (by kernel_rfl) s letters w (by omega) (by decide) (ascii_of_all (by decide))

set_option maxRecDepth 100000 in
theorem name_c {w : World} (s : ByteArray) (hs : s.size ≤ 140737488351232) :
    Calls Tryd.prog 29 #[.string s] w fun e w' => e = .returned (.bool (nameB s)) ∧ Below w.heap.size w w' := by
  by_cases h0 : 0 < s.size
  · have hE := ne_nil s h0
    by_cases h1 : (16 : Int) < s.size
    · have hn : nameB s = false := by unfold nameB; rw [decide_eq_false (show ¬ s.size ≤ 16 by omega)]; simp
      rw [hn]
      clear hn h0
      go_enter Tryd.func29, Tryd.ntmps29
      go_wp2_with fail
      go_ret
      exact ⟨rfl, Below.refl _ _⟩
    · have h1' : (s.size : Int) ≤ 16 := by omega
      have hn : nameB s = (Lib.trimS s.data.toList letters.data.toList).isEmpty := by unfold nameB; rw [decide_eq_true h0, decide_eq_true (show s.size ≤ 16 by omega)]; rfl
      have HT := Lib.hid (trim_c (w := w) s hs)
      obtain ⟨y, hy⟩ : ∃ y, y = Lib.trimS s.data.toList letters.data.toList := ⟨_, rfl⟩
      rw [← hy] at hn HT
      rw [hn]
      clear hn h0 h1 hy
      cases y with
      | nil =>
        go_enter Tryd.func29, Tryd.ntmps29
        go_wp2_with fail
        refine (HT.out).mono ?_
        rintro e w1 ⟨rfl, b1⟩
        go_wp2_with fail
        go_ret
        exact ⟨rfl, b1⟩
      | cons a r =>
        obtain ⟨z, hz⟩ : ∃ z : ByteArray, z = ⟨(a :: r).toArray⟩ := ⟨_, rfl⟩
        have hzE : z.toList.isEmpty = false := by rw [ByteArray.toList_eq, hz]; rfl
        rw [← hz] at HT
        clear hz
        go_enter Tryd.func29, Tryd.ntmps29
        go_wp2_with fail
        refine (HT.out).mono ?_
        rintro e w1 ⟨rfl, b1⟩
        go_wp2_with fail
        go_ret
        exact ⟨rfl, b1⟩
  · obtain rfl := ba_nil (s := s) (by omega)
    go_enter Tryd.func29, Tryd.ntmps29
    go_wp2_with fail
    go_ret
    exact ⟨rfl, Below.refl _ _⟩

/-- Is it a NaN? Its bits as it is held. -/
def nanB (r : Nat) : Bool := FloatKind.f64.format.order r r != some .eq
def canonR (r : Nat) : Nat := if nanB r = true then 9221120237041090561 else r
theorem bits64_run (w : World) (r : Nat) : (callFunc 71 #[.float .f64 r]).run Tryd.prog w = .ok (.value (.int .u64 r)) w := by
  rw [run_callFunc_extern (e := Extern.MathFloatBits.float64bits) Tryd.func71 (by kernel_rfl) (by kernel_rfl) (by kernel_rfl) (by kernel_rfl)]
  rfl
theorem from64_run (w : World) (n : Int) : (callFunc 86 #[.int .u64 n]).run Tryd.prog w = .ok (.value (.float .f64 n.toNat)) w := by
  rw [run_callFunc_extern (e := Extern.MathFloatBits.float64frombits) Tryd.func86 (by kernel_rfl) (by kernel_rfl) (by kernel_rfl) (by kernel_rfl)]
  rfl

set_option maxRecDepth 100000 in
theorem canon_c {w : World} (r : Nat) :
    Calls Tryd.prog 72 #[.float .f64 r] w fun e w' => e = .returned (.float .f64 (canonR r)) ∧ w = w' := by
  cases hn : nanB r with
  | true =>
    have e : canonR r = 9221120237041090561 := by unfold canonR; rw [hn]; rfl
    rw [e]
    clear e
    unfold nanB at hn
    have q := from64_run
    go_enter Tryd.func72, Tryd.ntmps72
    go_wp2_with fail
    go_ret
    exact ⟨rfl, rfl⟩
  | false =>
    have e : canonR r = r := by unfold canonR; rw [hn]; rfl
    rw [e]
    clear e
    unfold nanB at hn
    go_enter Tryd.func72, Tryd.ntmps72
    go_wp2_with fail
    go_ret
    exact ⟨rfl, rfl⟩

/-- Can a value be? -/
def goodB (k n : Int) (t : ByteArray) (r : Nat) : Bool :=
  if k = 1 then decide (t.size = 0) && decide (r = 0)
  else if k = 2 then decide (t.size = 0) && decide (r = 0) && (decide (n = 0) || decide (n = 1))
  else if k = 3 then decide (n = 0) && decide (r = 0) && decide (t.size ≤ 256)
  else if k = 4 then decide (n = 0) && decide (t.size = 0) && decide (r = canonR r)
  else false

theorem good_of {k n : Int} {t : ByteArray} {r : Nat} (h : goodB k n t r = true) :
    (k = 1 ∧ t.size = 0 ∧ r = 0) ∨ (k = 2 ∧ t.size = 0 ∧ r = 0 ∧ (n = 0 ∨ n = 1)) ∨ (k = 3 ∧ n = 0 ∧ r = 0 ∧ t.size ≤ 256) ∨ (k = 4 ∧ n = 0 ∧ t.size = 0 ∧ r = canonR r) := by
  unfold goodB at h
  split at h
  · simp only [Bool.and_eq_true, Bool.or_eq_true, decide_eq_true_eq] at h; exact .inl ⟨by assumption, h.1, h.2⟩
  · split at h
    · simp only [Bool.and_eq_true, Bool.or_eq_true, decide_eq_true_eq] at h; exact .inr (.inl ⟨by assumption, h.1.1, h.1.2, h.2⟩)
    · split at h
      · simp only [Bool.and_eq_true, Bool.or_eq_true, decide_eq_true_eq] at h; exact .inr (.inr (.inl ⟨by assumption, h.1.1, h.1.2, h.2⟩))
      · split at h
        · simp only [Bool.and_eq_true, Bool.or_eq_true, decide_eq_true_eq] at h; exact .inr (.inr (.inr ⟨by assumption, h.1.1, h.1.2, h.2⟩))
        · cases h

set_option maxRecDepth 100000 in
set_option maxHeartbeats 2000000 in
theorem good_c {w : World} (k n : Int) (t : ByteArray) (r : Nat) :
    Calls Tryd.prog 52 #[.agg #[.int .i64 k, .int .i64 n, .string t, .float .f64 r]] w fun e w' => e = .returned (.bool (goodB k n t r)) ∧ Below w.heap.size w w' := by
  have bW := (Below.refl w.heap.size w).alloc (Nat.le_refl _) (.cells #[.int .i64 k, .int .i64 n, .string t, .float .f64 r] 83)
  have q64 := bits64_run
  have ht : (t = ByteArray.empty ∧ t.size = 0) ∨ (t.toList.isEmpty = false ∧ t.size ≠ 0) := by
    by_cases h : t.size = 0
    · exact .inl ⟨ba_nil h, h⟩
    · exact .inr ⟨ne_nil t (by omega), h⟩
  have hr : (r = 0) ∨ (r ≠ 0 ∧ ((r : Int) == 0) = false) := by by_cases h : r = 0; exact .inl h; exact .inr ⟨h, beq_eq_false_iff_ne.2 (by omega)⟩
  by_cases h1 : k = 1
  · subst h1
    rcases ht with ⟨rfl, hz⟩ | ⟨hE, hz⟩
    · rcases hr with rfl | ⟨hr, hrb⟩
      · have e : goodB 1 n ByteArray.empty 0 = true := by unfold goodB; simp []
        rw [e]
        clear e
        go_enter Tryd.func52, Tryd.ntmps52
        go_wp2_with fail
        go_ret
        exact ⟨rfl, bW⟩
      · have e : goodB 1 n ByteArray.empty r = false := by unfold goodB; simp [hr]
        rw [e]
        clear e
        go_enter Tryd.func52, Tryd.ntmps52
        go_wp2_with fail
        go_ret
        exact ⟨rfl, bW⟩
    · have e : goodB 1 n t r = false := by unfold goodB; simp [hz]
      rw [e]
      clear e
      go_enter Tryd.func52, Tryd.ntmps52
      go_wp2_with fail
      go_ret
      exact ⟨rfl, bW⟩
  · have k1 : (k == 1) = false := beq_eq_false_iff_ne.2 h1
    by_cases h2 : k = 2
    · subst h2
      rcases ht with ⟨rfl, hz⟩ | ⟨hE, hz⟩
      · rcases hr with rfl | ⟨hr, hrb⟩
        · by_cases n0 : n = 0
          · subst n0
            have e : goodB 2 0 ByteArray.empty 0 = true := by unfold goodB; simp []
            rw [e]
            clear e
            go_enter Tryd.func52, Tryd.ntmps52
            go_wp2_with fail
            go_ret
            exact ⟨rfl, bW⟩
          · have nb0 : (n == 0) = false := beq_eq_false_iff_ne.2 n0
            by_cases n1 : n = 1
            · subst n1
              have e : goodB 2 1 ByteArray.empty 0 = true := by unfold goodB; simp []
              rw [e]
              clear e
              go_enter Tryd.func52, Tryd.ntmps52
              go_wp2_with fail
              go_ret
              exact ⟨rfl, bW⟩
            · have nb1 : (n == 1) = false := beq_eq_false_iff_ne.2 n1
              have e : goodB 2 n ByteArray.empty 0 = false := by unfold goodB; simp [n0, n1]
              rw [e]
              clear e
              go_enter Tryd.func52, Tryd.ntmps52
              go_wp2_with fail
              go_ret
              exact ⟨rfl, bW⟩
        · have e : goodB 2 n ByteArray.empty r = false := by unfold goodB; simp [hr]
          rw [e]
          clear e
          go_enter Tryd.func52, Tryd.ntmps52
          go_wp2_with fail
          go_ret
          exact ⟨rfl, bW⟩
      · have e : goodB 2 n t r = false := by unfold goodB; simp [hz]
        rw [e]
        clear e
        go_enter Tryd.func52, Tryd.ntmps52
        go_wp2_with fail
        go_ret
        exact ⟨rfl, bW⟩
    · have k2 : (k == 2) = false := beq_eq_false_iff_ne.2 h2
      by_cases h3 : k = 3
      · subst h3
        by_cases n0 : n = 0
        · subst n0
          rcases hr with rfl | ⟨hr, hrb⟩
          · by_cases hl : t.size ≤ 256
            · have hl' : (t.size : Int) ≤ 256 := by omega
              have e : goodB 3 0 t 0 = true := by unfold goodB; simp [hl]
              rw [e]
              clear e
              go_enter Tryd.func52, Tryd.ntmps52
              go_wp2_with fail
              go_ret
              exact ⟨by first | rfl | (show Ending.returned (Value.bool (decide ((t.size : Int) ≤ 256))) = _; first | (rw [decide_eq_true (by omega)]; done) | (rw [decide_eq_false (by omega)]; done)), bW⟩
            · have hl' : (256 : Int) < t.size := by omega
              have e : goodB 3 0 t 0 = false := by unfold goodB; simp [hl]
              rw [e]
              clear e hl
              go_enter Tryd.func52, Tryd.ntmps52
              go_wp2_with fail
              go_ret
              exact ⟨by first | rfl | (show Ending.returned (Value.bool (decide ((t.size : Int) ≤ 256))) = _; first | (rw [decide_eq_true (by omega)]; done) | (rw [decide_eq_false (by omega)]; done)), bW⟩
          · have e : goodB 3 0 t r = false := by unfold goodB; simp [hr]
            rw [e]
            clear e
            go_enter Tryd.func52, Tryd.ntmps52
            go_wp2_with fail
            go_ret
            exact ⟨rfl, bW⟩
        · have nb0 : (n == 0) = false := beq_eq_false_iff_ne.2 n0
          have e : goodB 3 n t r = false := by unfold goodB; simp [n0]
          rw [e]
          clear e
          go_enter Tryd.func52, Tryd.ntmps52
          go_wp2_with fail
          go_ret
          exact ⟨rfl, bW⟩
      · have k3 : (k == 3) = false := beq_eq_false_iff_ne.2 h3
        by_cases h4 : k = 4
        · subst h4
          by_cases n0 : n = 0
          · subst n0
            rcases ht with ⟨rfl, hz⟩ | ⟨hE, hz⟩
            · by_cases hc : r = canonR r
              · have hcb : ((r : Int) == (canonR r : Int)) = true := by rw [← hc]; exact beq_self_eq_true _
                have e : goodB 4 0 ByteArray.empty r = true := by unfold goodB; simp [← hc]
                rw [e]
                clear e hc hr
                go_enter Tryd.func52, Tryd.ntmps52
                go_wp2_with fail
                refine (canon_c r).mono ?_
                rintro e w1 ⟨rfl, rfl⟩
                go_wp2_with fail
                go_ret
                exact ⟨rfl, bW⟩
              · have hcb : ((r : Int) == (canonR r : Int)) = false := beq_eq_false_iff_ne.2 (by omega)
                have e : goodB 4 0 ByteArray.empty r = false := by unfold goodB; simp [hc]
                rw [e]
                clear e hc hr
                go_enter Tryd.func52, Tryd.ntmps52
                go_wp2_with fail
                refine (canon_c r).mono ?_
                rintro e w1 ⟨rfl, rfl⟩
                go_wp2_with fail
                go_ret
                exact ⟨rfl, bW⟩
            · have e : goodB 4 0 t r = false := by unfold goodB; simp [hz]
              rw [e]
              clear e
              go_enter Tryd.func52, Tryd.ntmps52
              go_wp2_with fail
              go_ret
              exact ⟨rfl, bW⟩
          · have nb0 : (n == 0) = false := beq_eq_false_iff_ne.2 n0
            have e : goodB 4 n t r = false := by unfold goodB; simp [n0]
            rw [e]
            clear e
            go_enter Tryd.func52, Tryd.ntmps52
            go_wp2_with fail
            go_ret
            exact ⟨rfl, bW⟩
        · have k4 : (k == 4) = false := beq_eq_false_iff_ne.2 h4
          have e : goodB k n t r = false := by unfold goodB; rw [if_neg h1, if_neg h2, if_neg h3, if_neg h4]
          rw [e]
          clear e
          go_enter Tryd.func52, Tryd.ntmps52
          go_wp2_with fail
          go_ret
          exact ⟨rfl, bW⟩
end Go.Proofs.YtelhpdnclmpgoaaDoor
