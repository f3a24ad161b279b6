/- Layer 16: Encode. -/
import Derived.Test.YtbniandbmabdbaaDoorAgB
import Derived.Deep.RegionWith
import Derived.BigRegion
import Derived.Deep.RegionHeld3
namespace Go.Proofs.YtbniandbmabdbaaDoor.Af
open Go Go.RowKit
set_option linter.unusedSimpArgs false
set_option linter.unusedVariables false

theorem put_c2 {w : World} {base : Nat} {v : Value} {l : List UInt8} (h : OB w base v l) (hB : base ≤ w.heap.size) (hl : l.length ≤ 70368744177664) (n k : Nat) (hn : n < 9223372036854775808) (hk : k ≤ 8) (ni ki : Int) (hni : ni = (n : Int)) (hki : ki = (k : Int)) :
    Calls Tryd.prog 20 #[v, .int .i64 ni, .int .i64 ki] w fun e w' => ∃ v', e = .returned v' ∧ OB w' base v' (l ++ beB n k) ∧ Below base w w' := by
  subst hni hki
  exact put_c h hB hl n hn k hk

theorem new_cell {w : World} {cs : Array Value} {t : TypeId} (j : Nat) (u : Value) (hj : cs[j]? = some u) : (w.alloc (.cells cs t)).drew.cell? ⟨w.heap.size, j, none⟩ = some u := by
  have hb : (w.alloc (.cells cs t)).drew.heap[w.heap.size]? = some (.cells cs t) := heap_alloc_new w _
  simp only [World.cell?, hb]
  simpa using hj

/-- A frame's bytes, if it is one. -/
def encOk (t c : Int) (s : ByteArray) : Bool := kindB t && decide (0 ≤ c) && decide (c ≤ 65535) && decide (s.size ≤ 16384)
def encB (t c : Nat) (s : List UInt8) : List UInt8 := beB t 1 ++ beB c 2 ++ beB s.length 4 ++ s ++ [206]
def EncPost (w : World) (t c : Int) (s : ByteArray) (e : Ending) (w' : World) : Prop :=
  Below w.heap.size w w' ∧ if encOk t c s = true then ∃ v, e = .returned (.tuple #[v, .int .i64 0]) ∧ OB w' w.heap.size v (encB t.toNat c.toNat s.data.toList) else e = .returned (.tuple #[.slice none 0 0, .int .i64 1])

theorem kindB_pos {t : Int} (h : kindB t = true) : 1 ≤ t ∧ t ≤ 8 := by
  unfold kindB at h
  simp only [Bool.or_eq_true, beq_iff_eq] at h
  omega

set_option maxRecDepth 100000 in
set_option maxHeartbeats 2000000 in
theorem encode_c {w : World} (t c : Int) (s : ByteArray) (hs : s.size ≤ 140737488351232) :
    Calls Tryd.prog 9 #[.agg #[.int .i64 t, .int .i64 c, .string s]] w (EncPost w t c s) := by
  have bW := (Below.refl w.heap.size w).alloc (Nat.le_refl _) (.cells #[.int .i64 t, .int .i64 c, .string s] 23)
  have hsz : (w.alloc (.cells #[.int .i64 t, .int .i64 c, .string s] 23)).heap.size = w.heap.size + 1 := Array.size_push _
  have HSZ := Lib.hid hsz
  clear hsz
  by_cases hok : encOk t c s = true
  · have hpost : ∀ e w', Below w.heap.size w w' → (∃ v, e = .returned (.tuple #[v, .int .i64 0]) ∧ OB w' w.heap.size v (encB t.toNat c.toNat s.data.toList)) → EncPost w t c s e w' := fun e w' h1 h2 => ⟨h1, by rw [if_pos hok]; exact h2⟩
    unfold encOk at hok
    simp only [Bool.and_eq_true, decide_eq_true_eq] at hok
    obtain ⟨⟨⟨hk, hc0⟩, hc1⟩, hs1⟩ := hok
    obtain ⟨ht0, ht1⟩ := kindB_pos hk
    obtain ⟨tn, rfl⟩ := Int.eq_ofNat_of_zero_le (show 0 ≤ t by omega)
    obtain ⟨cn, rfl⟩ := Int.eq_ofNat_of_zero_le hc0
    have hs2 : (s.size : Int) ≤ 16384 := by omega
    have HPO := Lib.hid hpost
    clear hpost
    have HK := Lib.hid (kind_c (w := w.alloc (.cells #[.int .i64 tn, .int .i64 cn, .string s] 23)) (tn : Int))
    rw [hk] at HK
    clear hk
    go_enter Tryd.func9, Tryd.ntmps9
    go_wp2_with (go_at_call 19; refine (HK.out).mono ?_; rintro e w1 ⟨rfl, rfl⟩)
    have q0 := new_cell (w := w) (cs := #[.int .i64 tn, .int .i64 cn, .string s]) (t := 23) 0 _ rfl
    have q1 := new_cell (w := w) (cs := #[.int .i64 tn, .int .i64 cn, .string s]) (t := 23) 1 _ rfl
    have q2 := new_cell (w := w) (cs := #[.int .i64 tn, .int .i64 cn, .string s]) (t := 23) 2 _ rfl
    go_region_held3 (fun w' => w'.cell? ⟨w.heap.size, 0, none⟩ = some (.int .i64 tn) ∧ w'.cell? ⟨w.heap.size, 1, none⟩ = some (.int .i64 cn) ∧ w'.cell? ⟨w.heap.size, 2, none⟩ = some (.string s))
      (first | exact ⟨q0, q1, q2⟩ | go_keep)
      (first
        | (go_at_call 20; refine (put_c2 (base := w.heap.size + 1) O2.out hs2 (by simp [beB_len]) s.size 4 (by omega) (by omega) (s.size : Int) 4 rfl rfl).mono ?_; rintro e w3 ⟨v3, rfl, o3, b3⟩; have O3 := Lib.hid o3; have B3 := b2.trans b3; have q0 := cell_below b3 (by show w.heap.size < _; omega) q0; have q1 := cell_below b3 (by show w.heap.size < _; omega) q1; have q2 := cell_below b3 (by show w.heap.size < _; omega) q2; have hs3 : w.heap.size + 1 ≤ w3.heap.size := Nat.le_trans hs2 b3.size; clear o3)
        | (go_at_call 20; refine (put_c2 (base := w.heap.size + 1) O1.out hs1' (by simp [beB_len]) cn 2 (by omega) (by omega) (cn : Int) 2 rfl rfl).mono ?_; rintro e w2 ⟨v2, rfl, o2, b2'⟩; have O2 := Lib.hid o2; have b2 := b1.trans b2'; have hs2 : w.heap.size + 1 ≤ w2.heap.size := Nat.le_trans hs1' b2'.size; have q0 := cell_below b2' (by show w.heap.size < _; omega) q0; have q1 := cell_below b2' (by show w.heap.size < _; omega) q1; have q2 := cell_below b2' (by show w.heap.size < _; omega) q2; clear o2)
        | (go_at_call 20; refine (put_c2 (base := w.heap.size + 1) (ob_nil _ _) ?_ (by simp) tn 1 (by omega) (by omega) (tn : Int) 1 rfl rfl).mono ?_; exact Nat.le_of_eq HSZ.out.symm; rintro e w1 ⟨v1, rfl, o1, b1⟩; have hs1' : w.heap.size + 1 ≤ w1.heap.size := Nat.le_trans (Nat.le_of_eq HSZ.out.symm) b1.size; have O1 := Lib.hid o1; have q0 := cell_below b1 (by show w.heap.size < _; omega) q0; have q1 := cell_below b1 (by show w.heap.size < _; omega) q1; have q2 := cell_below b1 (by show w.heap.size < _; omega) q2; clear o1))
    have hsl : s.data.toList.length = s.size := by rw [Array.length_toList]; rfl
    go_wp2_with (first
      | (at_builtin; refine app_s (w0 := w3) (base := w.heap.size + 1) (l := [] ++ beB tn 1 ++ beB cn 2 ++ beB s.size 4) rfl (.tmp 35) (.tmp 37) rfl s rfl rfl O3.out (Below.refl _ _) hs3 (by simp [beB_len]; omega) ?_; intro v5 w5 o5 b5 _; have hs5 : w.heap.size + 1 ≤ w5.heap.size := Nat.le_trans hs3 b5.size; have O5 := Lib.hid o5; clear o5)
      | (at_builtin; refine app_b (w0 := w3) (base := w.heap.size + 1) (l := [] ++ beB tn 1 ++ beB cn 2 ++ beB s.size 4 ++ s.data.toList) (m := [206]) rfl (.tmp 38) (.tmp 39) rfl rfl rfl (O5.out.alloc _) (rb_one _ 206) (b5.alloc hs5 _) (by simp; omega) (by simp only [List.length_append, beB_len, hsl, List.length_cons, List.length_nil]; omega) ?_; intro v6 w6 o6 b6 _ _; have O6 := Lib.hid o6; clear o6))
    go_ret2
    have he : ([] ++ beB tn 1 ++ beB cn 2 ++ beB s.size 4 ++ s.data.toList) ++ [206] = encB (tn : Int).toNat (cn : Int).toNat s.data.toList := by
      rw [encB, hsl]
      simp
    have o := O6.out
    rw [he] at o
    exact HPO.out _ _ (bW.drew.trans ((B3.trans b6).mono (Nat.le_succ _))) ⟨v6, rfl, own_lower o (Nat.le_succ _)⟩
  · have hpost : ∀ e w', Below w.heap.size w w' → e = .returned (.tuple #[.slice none 0 0, .int .i64 1]) → EncPost w t c s e w' := fun e w' h1 h2 => ⟨h1, by rw [if_neg hok]; exact h2⟩
    have HPO := Lib.hid hpost
    have HK := Lib.hid (kind_c (w := w.alloc (.cells #[.int .i64 t, .int .i64 c, .string s] 23)) t)
    clear hpost
    cases hk : kindB t with
    | false =>
      rw [hk] at HK
      clear hk hok
      go_enter Tryd.func9, Tryd.ntmps9
      go_wp2_with (go_at_call 19; refine (HK.out).mono ?_; rintro e w1 ⟨rfl, rfl⟩)
      go_ret2
      exact HPO.out _ _ bW rfl
    | true =>
      rw [hk] at HK
      have hok : ¬ (0 ≤ c ∧ c ≤ 65535 ∧ s.size ≤ 16384) := by
        rintro ⟨a, b, d⟩
        exact hok (by unfold encOk; rw [hk]; simp [a, b, d])
      clear hk
      by_cases h0 : c < 0
      · clear hok
        go_enter Tryd.func9, Tryd.ntmps9
        go_wp2_with (go_at_call 19; refine (HK.out).mono ?_; rintro e w1 ⟨rfl, rfl⟩)
        go_ret2
        exact HPO.out _ _ bW rfl
      · by_cases h1 : 65535 < c
        · have h0' : 0 ≤ c := by omega
          clear hok h0
          go_enter Tryd.func9, Tryd.ntmps9
          go_wp2_with (go_at_call 19; refine (HK.out).mono ?_; rintro e w1 ⟨rfl, rfl⟩)
          go_ret2
          exact HPO.out _ _ bW rfl
        · have h0' : 0 ≤ c := by omega
          have h1' : c ≤ 65535 := by omega
          have h2 : (16384 : Int) < s.size := by omega
          clear hok h0 h1
          go_enter Tryd.func9, Tryd.ntmps9
          go_wp2_with (go_at_call 19; refine (HK.out).mono ?_; rintro e w1 ⟨rfl, rfl⟩)
          go_ret2
          exact HPO.out _ _ bW rfl
end Go.Proofs.YtbniandbmabdbaaDoor.Af
