/- AframeBounds: the statement's walk. -/
import Derived.Test.YtbniandbmabdbaaDoorAfP
namespace Go.Proofs.YtbniandbmabdbaaDoor
open Go Go.RowKit
set_option linter.unusedSimpArgs false
set_option linter.unusedVariables false

set_option maxRecDepth 100000 in
set_option maxHeartbeats 2000000 in
theorem aframeBounds_c {w : World} (s : ByteArray) :
    Calls Tryd.prog 5 #[.string s] w fun e w' => e = .returned (.bool true) ∧ Below w.heap.size w w' := by
  by_cases h1 : 65536 < s.size
  · have h1' : (65536 : Int) < s.size := by omega
    clear h1
    go_enter Tryd.func5, Tryd.ntmps5
    go_wp2_with fail
    refine wakes_c.mono ?_
    rintro e w1 ⟨rfl, b1⟩
    go_wp2_with fail
    go_ret
    exact ⟨rfl, b1⟩
  · have h1' : (s.size : Int) ≤ 65536 := by omega
    have hs : s.size ≤ 140737488351232 := by omega
    by_cases hz : nxE s = 0
    · obtain ⟨hok, henc⟩ := nx_enc hz
      obtain ⟨_, _, hl, hle, _⟩ := nx_ok hz
      have hx : nxA s = .tuple #[.agg #[.int .i64 (atB s 0).toNat, .int .i64 (chB s), .string (s.extract 7 (7 + lenB s))], .int .i64 (lenB s + 8 : Nat), .int .i64 0] := by
        unfold nxA
        rw [if_pos hz]
        rfl
      obtain ⟨p, hp⟩ : ∃ p, p = s.extract 7 (7 + lenB s) := ⟨_, rfl⟩
      have hpl : p.size ≤ 16384 := by rw [hp, ext_size _ _ _ (by omega)]; omega
      rw [← hp] at hok henc hx
      obtain ⟨nn, hnn⟩ : ∃ nn, nn = lenB s + 8 := ⟨_, rfl⟩
      rw [← hnn] at henc hx hle
      obtain ⟨t, ht⟩ : ∃ t : Nat, t = (atB s 0).toNat := ⟨_, rfl⟩
      obtain ⟨c, hc⟩ : ∃ c : Nat, c = chB s := ⟨_, rfl⟩
      rw [← ht, ← hc] at hok henc hx
      clear hp hnn ht hc hz h1 hl
      have hpl' : (p.size : Int) ≤ 16384 := by omega
      have hle' : (nn : Int) ≤ s.size := by omega
      have hn0 : (0 : Int) ≤ nn := by omega
      have hps : p.size ≤ 140737488351232 := by omega
      have HX := Lib.hid hx
      have HE := Lib.hid henc
      have HO := Lib.hid hok
      clear hx henc hok hpl hle
      go_enter Tryd.func5, Tryd.ntmps5
      go_wp2_with fail
      refine wakes_c.mono ?_
      rintro e w1 ⟨rfl, b1⟩
      go_wp2_with fail
      refine (next_c s hs).mono ?_
      rw [HX.out]
      rintro e w2 ⟨rfl, b2⟩
      have F2 := fb_new w2 (.int .i64 (t : Int)) (.int .i64 (c : Int)) (.string p)
      have b2' := b2.alloc b2.size (.cells #[.int .i64 (t : Int), .int .i64 (c : Int), .string p] 23)
      go_wp2_with fail
      refine (encode_c t c p hps).mono ?_
      intro e w3 h3
      obtain ⟨b3, h3⟩ := h3
      rw [if_pos HO.out] at h3
      obtain ⟨v3, rfl, o3⟩ := h3
      have F3 := fb_below F2 b3 (fb_lt F2)
      obtain ⟨_, _, g2, _, _, _⟩ := fb_facts F3
      have g2' : w3.drew.cell? ⟨w2.heap.size, 2, none⟩ = some (.string p) := g2
      have hcv := rb_string (rc_drew (ob_rb o3))
      rw [show (⟨(encB ((t : Nat) : Int).toNat ((c : Nat) : Int).toNat p.data.toList).toArray⟩ : ByteArray) = s.extract 0 nn from by
        rw [show ((t : Nat) : Int).toNat = t from rfl, show ((c : Nat) : Int).toNat = c from rfl, HE.out]] at hcv
      have BF := Lib.hid (b1.trans ((b2'.trans (b3.mono b2'.size)).mono b1.size))
      clear F2 F3 o3 b1 b2 b2' b3
      go_wp2_with fail
      go_region
      all_goals go_wp2
      all_goals go_ret
      all_goals exact ⟨by first | rfl | (simp; done), BF.out.drew⟩
    · have hx : ∃ k : Int, (k = 40 ∨ k = 41) ∧ nxA s = .tuple #[.agg #[.int .i64 0, .int .i64 0, .string ByteArray.empty], .int .i64 0, .int .i64 k] := by
        refine ⟨(nxE s : Nat), ?_, ?_⟩
        · rcases nx_err hz with h | h <;> rw [h]
          · exact .inl rfl
          · exact .inr rfl
        · unfold nxA
          rw [if_neg hz]
          rfl
      obtain ⟨k, hk, hx⟩ := hx
      have HX := Lib.hid hx
      clear hx hz h1
      rcases hk with rfl | rfl
      · go_enter Tryd.func5, Tryd.ntmps5
        go_wp2_with fail
        refine wakes_c.mono ?_
        rintro e w1 ⟨rfl, b1⟩
        go_wp2_with fail
        refine (next_c s hs).mono ?_
        rw [HX.out]
        rintro e w2 ⟨rfl, b2⟩
        have b2' := b2.alloc b2.size (.cells #[.int .i64 0, .int .i64 0, .string ByteArray.empty] 23)
        go_wp2_with fail
        go_ret
        exact ⟨rfl, b1.trans (b2'.mono b1.size)⟩
      · go_enter Tryd.func5, Tryd.ntmps5
        go_wp2_with fail
        refine wakes_c.mono ?_
        rintro e w1 ⟨rfl, b1⟩
        go_wp2_with fail
        refine (next_c s hs).mono ?_
        rw [HX.out]
        rintro e w2 ⟨rfl, b2⟩
        have b2' := b2.alloc b2.size (.cells #[.int .i64 0, .int .i64 0, .string ByteArray.empty] 23)
        go_wp2_with fail
        go_ret
        exact ⟨rfl, b1.trans (b2'.mono b1.size)⟩
end Go.Proofs.YtbniandbmabdbaaDoor
