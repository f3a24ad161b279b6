/- Layer 16: the reference's Encode. -/
import Derived.Test.YtbniandbmabdbaaDoorAgC
import Derived.Laws.OwnMore
import Derived.Deep.DeepCutAuto
import Derived.Deep.CutRange
namespace Go.Proofs.YtbniandbmabdbaaDoor.Af
open Go Go.RowKit
set_option linter.unusedSimpArgs false
set_option linter.unusedVariables false

theorem refBig_c2 {w : World} {base : Nat} {v : Value} {l : List UInt8} (h : OB w base v l) (hB : base ≤ w.heap.size) (hl : l.length ≤ 70368744177664) (n k : Nat) (hn : n < 9223372036854775808) (hk : k ≤ 8) (ni ki : Int) (hni : ni = (n : Int)) (hki : ki = (k : Int)) :
    Calls Tryd.prog 22 #[v, .int .u64 ni, .int .i64 ki] w fun e w' => ∃ v', e = .returned v' ∧ OB w' base v' (l ++ beB n k) ∧ Below base w w' := by
  subst hni hki
  exact refBig_c h hB hl n (by omega) k hk

theorem ob_one {w : World} {base : Nat} (x : UInt8) (hb : base ≤ w.heap.size) (z : Int) (hz : z = (x.toNat : Int)) : OB (w.alloc (.cells #[.int .u8 z] 5)) base (.slice (some ⟨w.heap.size, 0, none⟩) 1 1) [x] := by
  subst hz
  exact World.ownsRow_lit w #[.int .u8 x.toNat] 1 hb (by decide) rfl

theorem ob_one1 {w : World} (a : Obj) (x : UInt8) (z : Int) (hz : z = (x.toNat : Int)) : OB ((w.alloc a).alloc (.cells #[.int .u8 z] 5)) (w.heap.size + 1) (.slice (some ⟨w.heap.size + 1, 0, none⟩) 1 1) [x] := by
  have h : (w.alloc a).heap.size = w.heap.size + 1 := Array.size_push _
  have := ob_one (w := w.alloc a) (base := w.heap.size + 1) x (Nat.le_of_eq h.symm) z hz
  rw [h] at this
  exact this
theorem cell_new0 {w : World} {cs : Array Value} {t : TypeId} (j : Nat) (u : Value) (hj : cs[j]? = some u) : (w.alloc (.cells cs t)).cell? ⟨w.heap.size, j, none⟩ = some u := new_cell j u hj
theorem cell_new1 {w : World} {cs : Array Value} {t : TypeId} (o : Obj) (j : Nat) (u : Value) (hj : cs[j]? = some u) : ((w.alloc (.cells cs t)).alloc o).cell? ⟨w.heap.size, j, none⟩ = some u :=
  cell_below ((Below.refl (w.alloc (.cells cs t)).heap.size (w.alloc (.cells cs t))).alloc (Nat.le_refl _) o) (by show w.heap.size < (w.heap.push _).size; rw [Array.size_push]; omega) (new_cell j u hj)

set_option maxRecDepth 1000000 in
set_option maxHeartbeats 2000000 in
theorem refEncode_c {w : World} (t c : Int) (s : ByteArray) (hs : s.size ≤ 140737488351232) :
    Calls Tryd.prog 10 #[.agg #[.int .i64 t, .int .i64 c, .string s]] w (EncPost w t c s) := by
  have bW := (Below.refl w.heap.size w).alloc (Nat.le_refl _) (.cells #[.int .i64 t, .int .i64 c, .string s] 23)
  by_cases hok : encOk t c s = true
  · have hpost : ∀ e w', Below w.heap.size w w' → (∃ v, e = .returned (.tuple #[v, .int .i64 0]) ∧ OB w' w.heap.size v (encB t.toNat c.toNat s.data.toList)) → EncPost w t c s e w' := fun e w' h1 h2 => ⟨h1, by rw [if_pos hok]; exact h2⟩
    unfold encOk at hok
    simp only [Bool.and_eq_true, decide_eq_true_eq] at hok
    obtain ⟨⟨⟨hk, hc0⟩, hc1⟩, hs1⟩ := hok
    obtain ⟨ht0, ht1⟩ := kindB_pos hk
    obtain ⟨tn, rfl⟩ := Int.eq_ofNat_of_zero_le (show 0 ≤ t by omega)
    obtain ⟨cn, rfl⟩ := Int.eq_ofNat_of_zero_le hc0
    have hs2 : (s.size : Int) ≤ 16384 := by omega
    have hc2 : (cn : Int) < 65536 := by omega
    have HPO := Lib.hid hpost
    have HC1 := Lib.hid hc1
    have HT0 := Lib.hid ht0
    have HT1 := Lib.hid ht1
    clear hpost hc1 ht0 ht1
    have HK := Lib.hid (refKind_c (w := w.alloc (.cells #[.int .i64 tn, .int .i64 cn, .string s] 23)) (tn : Int))
    rw [hk] at HK
    clear hk
    have hsl : s.data.toList.length = s.size := by rw [Array.length_toList]; rfl
    have HSL := Lib.hid hsl
    clear hsl
    have P2 := Lib.hid (show ∀ o, ((w.alloc (.cells #[.int .i64 tn, .int .i64 cn, .string s] 23)).alloc o).cell? ⟨w.heap.size, 2, none⟩ = some (.string s) from fun o => cell_new1 o 2 _ rfl)
    have hd : (tn : Int) % 256 = ((dig tn 0).toNat : Int) := by have := dig_val tn 0; simpa using this
    have HD := Lib.hid hd
    clear hd
    have OB1 := Lib.hid (ob_one1 (w := w) (.cells #[.int .i64 tn, .int .i64 cn, .string s] 23) (dig tn 0) _ HD.out)
    have HZ1 := Lib.hid (show ∀ o, w.heap.size + 1 = (w.alloc o).heap.size from fun o => by show _ = (w.heap.push o).size; simp)
    have HZ2 := Lib.hid (show ∀ o o', w.heap.size + 1 < ((w.alloc o).alloc o').heap.size from fun o o' => by show _ < ((w.heap.push o).push o').size; simp)
    go_enter Tryd.func10, Tryd.ntmps10
    go_wp2_with (first
      | (at_builtin; refine app_b (w0 := w3) (base := w.heap.size + 1) (l := [dig tn 0] ++ beB cn 2 ++ beB s.size 4 ++ s.data.toList) (m := [206]) rfl (.tmp 44) (.tmp 45) rfl rfl rfl (O5.out.alloc _) (rb_one _ 206) (b5.alloc hs5 _) (by simp; omega) (by have := HSL.out; simp only [List.length_append, beB_len, this, List.length_cons, List.length_nil]; omega) ?_; intro v6 w6 o6 b6 _ _; have O6 := Lib.hid o6; clear o6)
      | (at_builtin; refine app_s (w0 := w3) (base := w.heap.size + 1) (l := [dig tn 0] ++ beB cn 2 ++ beB s.size 4) rfl (.tmp 40) (.tmp 42) rfl s rfl rfl O3.out (Below.refl _ _) hs3 (by have := HSL.out; simp [beB_len]; omega) ?_; intro v5 w5 o5 b5 _; have hs5 : w.heap.size + 1 ≤ w5.heap.size := Nat.le_trans hs3 b5.size; have O5 := Lib.hid o5; clear o5)
      | (go_at_call 22; refine (refBig_c2 (base := w.heap.size + 1) O2.out hs2' (by simp [beB_len]) s.size 4 (by omega) (by omega) (s.size : Int) 4 rfl rfl).mono ?_; rintro e w3 ⟨v3, rfl, o3, b3⟩; have O3 := Lib.hid o3; have hs3 : w.heap.size + 1 ≤ w3.heap.size := Nat.le_trans hs2' b3.size; have B3 := b2.trans b3; have p3 := cell_below b3 (Nat.lt_succ_self _) p2; clear o3)
      | (go_at_call 22; refine (refBig_c2 (base := w.heap.size + 1) OB1.out (Nat.le_of_lt (HZ2.out _ _)) (by simp) cn 2 (by have := HC1.out; omega) (by omega) (cn : Int) 2 rfl rfl).mono ?_; rintro e w2 ⟨v2, rfl, o2, b2⟩; have O2 := Lib.hid o2; have hs2' : w.heap.size + 1 ≤ w2.heap.size := Nat.le_trans (Nat.le_of_lt (HZ2.out _ _)) b2.size; have p2 := cell_below b2 (Nat.lt_succ_self _) (P2.out _); clear o2)
      | (go_at_call 21; refine (HK.out).mono ?_; rintro e w1 ⟨rfl, rfl⟩))
    go_ret2
    have he : ([dig tn 0] ++ beB cn 2 ++ beB s.size 4 ++ s.data.toList) ++ [206] = encB (tn : Int).toNat (cn : Int).toNat s.data.toList := by
      rw [encB, HSL.out]
      simp [beB]
    have o := O6.out
    rw [he] at o
    exact HPO.out _ _ ((bW.alloc (by simp) _).trans ((B3.trans b6).mono (Nat.le_succ _))) ⟨v6, rfl, own_lower o (Nat.le_succ _)⟩
  · have hpost : ∀ e w', Below w.heap.size w w' → e = .returned (.tuple #[.slice none 0 0, .int .i64 1]) → EncPost w t c s e w' := fun e w' h1 h2 => ⟨h1, by rw [if_neg hok]; exact h2⟩
    have HPO := Lib.hid hpost
    have HK := Lib.hid (refKind_c (w := w.alloc (.cells #[.int .i64 t, .int .i64 c, .string s] 23)) t)
    clear hpost
    cases hk : kindB t with
    | false =>
      rw [hk] at HK
      clear hk hok
      go_enter Tryd.func10, Tryd.ntmps10
      go_wp2_with (go_at_call 21; refine (HK.out).mono ?_; rintro e w1 ⟨rfl, rfl⟩)
      go_ret2
      exact HPO.out _ _ bW rfl
    | true =>
      rw [hk] at HK
      have hok : ¬ (0 ≤ c ∧ c ≤ 65535 ∧ s.size ≤ 16384) := by
        rintro ⟨a, b, d⟩
        exact hok (by unfold encOk; rw [hk]; simp [a, b, d])
      clear hk
      by_cases h0 : c < 0
      · clear hok
        go_enter Tryd.func10, Tryd.ntmps10
        go_wp2_with (go_at_call 21; refine (HK.out).mono ?_; rintro e w1 ⟨rfl, rfl⟩)
        go_ret2
        exact HPO.out _ _ bW rfl
      · by_cases h1 : 65536 ≤ c
        · have h0' : 0 ≤ c := by omega
          clear hok h0
          go_enter Tryd.func10, Tryd.ntmps10
          go_wp2_with (go_at_call 21; refine (HK.out).mono ?_; rintro e w1 ⟨rfl, rfl⟩)
          go_ret2
          exact HPO.out _ _ bW rfl
        · have h0' : 0 ≤ c := by omega
          have h2 : (16384 : Int) < s.size := by omega
          have h3 : (c : Int) < 65536 := by omega
          clear hok h0 h1
          go_enter Tryd.func10, Tryd.ntmps10
          go_wp2_with (go_at_call 21; refine (HK.out).mono ?_; rintro e w1 ⟨rfl, rfl⟩)
          go_ret2
          exact HPO.out _ _ bW rfl
end Go.Proofs.YtbniandbmabdbaaDoor.Af
