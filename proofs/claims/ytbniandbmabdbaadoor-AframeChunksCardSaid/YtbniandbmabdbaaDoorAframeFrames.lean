/- AframeFrames: the statement's walk. -/
import Derived.Test.YtbniandbmabdbaaDoorAfH
namespace Go.Proofs.YtbniandbmabdbaaDoor
open Go Go.RowKit
set_option linter.unusedSimpArgs false
set_option linter.unusedVariables false

/-- Encode's bytes and error. -/
def encL (t c : Int) (s : ByteArray) : List UInt8 := if encOk t c s = true then encB t.toNat c.toNat s.data.toList else []
def encE (t c : Int) (s : ByteArray) : Int := if encOk t c s = true then 0 else 1
theorem enc_post {w : World} {t c : Int} {s : ByteArray} {e : Ending} {w' : World} (h : EncPost w t c s e w') :
    ∃ v, e = .returned (.tuple #[v, .int .i64 (encE t c s)]) ∧ OB w' w.heap.size v (encL t c s) ∧ Below w.heap.size w w' := by
  obtain ⟨hb, h⟩ := h
  unfold encE encL
  by_cases hok : encOk t c s = true
  · rw [if_pos hok] at h ⊢
    rw [if_pos hok]
    obtain ⟨v, he, ho⟩ := h
    exact ⟨v, he, ho, hb⟩
  · rw [if_neg hok] at h ⊢
    rw [if_neg hok]
    exact ⟨_, h, ob_nil _ _, hb⟩
theorem nx_shape (s : ByteArray) : ∃ x0 x1 y n e, nxA s = .tuple #[.agg #[.int .i64 x0, .int .i64 x1, .string y], .int .i64 n, .int .i64 e] := by
  unfold nxA
  split
  · exact ⟨_, _, _, _, _, rfl⟩
  · exact ⟨_, _, _, _, _, rfl⟩
theorem fb_below {w w1 : World} {F : Nat} {a b c : Value} (h : FB w F a b c) {B : Nat} (hb : Below B w w1) (hF : F < B) : FB w1 F a b c := by
  unfold FB at h ⊢
  rw [hb.block F hF]
  exact h

set_option maxRecDepth 100000 in
set_option maxHeartbeats 2000000 in
theorem aframeFrames_c {w : World} (t c : Int) (p s : ByteArray) :
    Calls Tryd.prog 3 #[.agg #[.int .i64 t, .int .i64 c, .string p], .string s] w fun e w' => e = .returned (.bool true) ∧ Below w.heap.size w w' := by
  have bW := (Below.refl w.heap.size w).alloc (Nat.le_refl _) (.cells #[.int .i64 t, .int .i64 c, .string p] 23)
  by_cases h0 : 32768 < p.size
  · have h0' : (32768 : Int) < p.size := by omega
    clear h0
    go_enter Tryd.func3, Tryd.ntmps3
    go_wp2_with fail
    refine wakes_c.mono ?_
    rintro e w1 ⟨rfl, b1⟩
    obtain ⟨_, _, f2, _, _, _⟩ := fb_facts (fb_below (fb_new w (.int .i64 t) (.int .i64 c) (.string p)) b1 (fb_lt (fb_new _ _ _ _)))
    go_wp2_with fail
    go_ret
    exact ⟨rfl, bW.trans (b1.mono bW.size)⟩
  · have h0' : (p.size : Int) ≤ 32768 := by omega
    by_cases h1 : 65536 < s.size
    · have h1' : (65536 : Int) < s.size := by omega
      clear h0 h1
      go_enter Tryd.func3, Tryd.ntmps3
      go_wp2_with fail
      refine wakes_c.mono ?_
      rintro e w1 ⟨rfl, b1⟩
      obtain ⟨_, _, f2, _, _, _⟩ := fb_facts (fb_below (fb_new w (.int .i64 t) (.int .i64 c) (.string p)) b1 (fb_lt (fb_new _ _ _ _)))
      go_wp2_with fail
      go_ret
      exact ⟨rfl, bW.trans (b1.mono bW.size)⟩
    · have h1' : (s.size : Int) ≤ 65536 := by omega
      obtain ⟨x0, x1, y, n, er, hx⟩ := nx_shape s
      have hp : p.size ≤ 140737488351232 := by omega
      have hs : s.size ≤ 140737488351232 := by omega
      clear h0 h1
      go_enter Tryd.func3, Tryd.ntmps3
      go_wp2_with fail
      refine wakes_c.mono ?_
      rintro e w1 ⟨rfl, b1⟩
      have F1 := fb_below (fb_new w (.int .i64 t) (.int .i64 c) (.string p)) b1 (fb_lt (fb_new _ _ _ _))
      have B1 := bW.trans (b1.mono bW.size)
      obtain ⟨g0, g1, g2, _, _, _⟩ := fb_facts F1
      clear b1 bW
      go_wp2_with fail
      refine (encode_c t c p hp).mono ?_
      intro e w2 h2
      obtain ⟨v2, rfl, o2, b2⟩ := enc_post h2
      have F2 := fb_below F1 b2 (fb_lt F1)
      obtain ⟨g0, g1, g2, _, _, _⟩ := fb_facts F2
      clear h2 F1
      go_wp2_with fail
      refine (refEncode_c t c p hp).mono ?_
      intro e w3 h3
      obtain ⟨v3, rfl, o3, b3⟩ := enc_post h3
      clear h3 F2
      go_wp2_with fail
      refine (next_c s hs).mono ?_
      rw [hx]
      rintro e w4 ⟨rfl, b4⟩
      have F4 := fb_new w4 (.int .i64 x0) (.int .i64 x1) (.string y)
      have b4' := b4.alloc b4.size (.cells #[.int .i64 x0, .int .i64 x1, .string y] 23)
      go_wp2_with fail
      refine (refNext_c s hs).mono ?_
      rw [hx]
      rintro e w5 ⟨rfl, b5⟩
      have F5 := fb_alloc (fb_below F4 b5 (fb_lt F4)) (.cells #[.int .i64 x0, .int .i64 x1, .string y] 23)
      have F6 := fb_new w5 (.int .i64 x0) (.int .i64 x1) (.string y)
      have b5' := b5.alloc b5.size (.cells #[.int .i64 x0, .int .i64 x1, .string y] 23)
      obtain ⟨g0, g1, g2, _, _, _⟩ := fb_facts F5
      obtain ⟨k0, k1, k2, _, _, _⟩ := fb_facts F6
      have b35 := b4'.trans (b5'.mono b4'.size)
      have b25 := b3.trans (b35.mono b3.size)
      have b15 := b2.trans (b25.mono b2.size)
      have hc1 := rb_string (rb_below (ob_rb o2) b25)
      have hc2 := rb_string (rb_below (ob_rb o3) b35)
      have BF := B1.trans (b15.mono B1.size)
      have HBF := Lib.hid BF
      clear o2 o3 b2 b3 b4 b5 b4' b5' b35 b25 b15 BF B1 F4 F5 F6 hx
      go_wp2_with fail
      go_ret
      exact ⟨rfl, HBF.out⟩
end Go.Proofs.YtbniandbmabdbaaDoor
