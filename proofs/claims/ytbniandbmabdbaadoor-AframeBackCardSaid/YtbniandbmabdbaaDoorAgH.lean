/- Layer 16: what the statements' wakes reach. -/
import Derived.Test.YtbniandbmabdbaaDoorAgG
namespace Go.Proofs.YtbniandbmabdbaaDoor.Af
open Go Go.RowKit
set_option linter.unusedSimpArgs false
set_option linter.unusedVariables false

set_option maxRecDepth 100000 in
set_option maxHeartbeats 1000000 in
theorem clone_b {w : World} {v : Value} {l : List UInt8} (h : RB w v l) (hl : l.length ≤ 140737488355328) :
    Calls Tryd.prog 35 #[v] w fun e w' => ∃ v', e = .returned v' ∧ OB w' w.heap.size v' l ∧ Below w.heap.size w w' := by
  obtain ⟨A, c, rfl, hnc, hc, hlen, hA, hcell⟩ := id h
  have q := fun (w : World) (a : Option Addr) (n c n' c' : Nat) => Lib.run_eql_slice_nil (P := Tryd.prog) w 25 _ a n c n' c' Tryd.underlying25
  have H := Lib.hid h
  have HC := Lib.hid hcell
  clear h hcell hlen
  rcases A with _ | ad
  · have : l = [] := List.eq_nil_of_length_eq_zero (by have := hA rfl; omega)
    subst this
    clear hA
    go_enter Tryd.func35, Tryd.ntmps35
    go_wp2
    go_ret
    exact ⟨_, rfl, ob_nil _ _, Below.refl _ _⟩
  · clear hA
    go_enter Tryd.func35, Tryd.ntmps35
    go_wp2_with (at_builtin; refine app_b (w0 := w) (base := w.heap.size) (l := []) (m := l) rfl (.tmp 5) (.tmp 6) rfl rfl rfl (World.ownsRow_made w #[] 0 (Nat.le_refl _) (Nat.zero_le _) (by simp)) (rc_alloc H.out _) ((Below.refl _ _).alloc (Nat.le_refl _) _) (by simp) (by simpa using hl) ?_; intro v1 w1 hown hb hg hat)
    go_ret
    exact ⟨v1, rfl, hown, hb⟩

set_option maxRecDepth 100000 in
set_option maxHeartbeats 1000000 in
theorem tableBig_c {w : World} {base : Nat} {v : Value} {l : List UInt8} (h : OB w base v l) (hB : base ≤ w.heap.size) (hl : l.length ≤ 70368744177664) (n : Nat) (hn : n < 18446744073709551616) (k : Nat) (hk : k ≤ 8) :
    Calls Tryd.prog 33 #[v, .int .u64 n, .int .i64 k] w fun e w' => ∃ v', e = .returned v' ∧ OB w' base v' (l ++ beB n k) ∧ Below base w w' := by
  have H := Lib.hid h
  clear h
  go_enter Tryd.func33, Tryd.ntmps33
  go_wp2
  go_loopw [0, 7] (fun x i wr => ∃ (r : Nat) (pre : List UInt8), r ≤ k ∧ i = .int .i64 ((r : Int) - 1) ∧ Hid (pre ++ beB n r = beB n k) ∧ Hid (OB wr base x (l ++ pre)) ∧ Below base w wr) (fun _ i _ => (intOf i + 1).toNat)
  case atStart => exact ⟨k, [], Nat.le_refl _, rfl, Lib.hid rfl, by simpa [Lib.hid] using H, Below.refl _ _⟩
  case round =>
    obtain ⟨r, pre, hr, rfl, HP, O2, b2⟩ := hrel
    cases r with
    | zero =>
      go_wp2
      go_ret
      have := HP.out
      simp only [beB, List.append_nil] at this
      exact ⟨_, rfl, by rw [← this]; exact O2.out, b2⟩
    | succ r =>
      have hpl : pre.length ≤ 8 := by
        have := congrArg List.length HP.out
        rw [List.length_append, beB_len, beB_len] at this
        omega
      go_wp2_with (at_builtin; refine app_b (w0 := w) (base := base) (l := l ++ pre) (m := [dig n r]) rfl (.tmp 14) (.tmp 20) rfl rfl rfl (O2.out.alloc _) (rb_dig wr _ _ (dig_val n r)) (b2.alloc (by have := b2.size; omega) _) (by have := b2.size; simp; omega) (by simp; omega) ?_; intro v4 w4 o4 b4 _ _; have O4 := Lib.hid o4; clear o4)
      go_roundw
      case rel => exact ⟨r, pre ++ [dig n r], by omega, by go_num, Lib.hid (by have := HP.out; simpa [beB] using this), Lib.hid (by have := O4.out; rwa [List.append_assoc] at this), b4⟩
      case measure => simp [intOf]

set_option maxRecDepth 100000 in
theorem valid_nil {w : World} : Calls Tryd.prog 32 #[.slice none 0 0] w fun e w' => e = .returned (.bool true) ∧ w = w' := by
  go_enter Tryd.func32, Tryd.ntmps32
  go_wp2
  go_loop [7] (fun i => i = .int .i64 0) (fun _ => 0)
  case atStart => rfl
  case round =>
    subst hrel
    go_wp2
    go_ret
    exact ⟨rfl, rfl⟩

set_option maxRecDepth 100000 in
set_option maxHeartbeats 1000000 in
theorem putNil_c {w : World} {base : Nat} {v : Value} {l : List UInt8} (h : OB w base v l) (hl : l.length ≤ 70368744177664) :
    Calls Tryd.prog 26 #[v, .slice none 0 0] w fun e w' => ∃ v', e = .returned (.tuple #[v', .int .i64 0]) ∧ Below w.heap.size w w' := by
  have H := Lib.hid h
  clear h
  go_enter Tryd.func26, Tryd.ntmps26
  go_wp2_with (go_at_call 32; refine valid_nil.mono ?_; rintro e w1 ⟨rfl, rfl⟩)
  go_loop [6, 14] (fun x i => x = .slice none 0 0 ∧ i = .int .i64 0) (fun _ _ => 0)
  case atStart => exact ⟨rfl, rfl⟩
  case round =>
    obtain ⟨rfl, rfl⟩ := hrel
    go_wp2_with fail
    refine (clone_b (ob_rb H.out) (by omega)).mono ?_
    rintro e w1 ⟨v1, rfl, o1, b1⟩
    go_wp2_with fail
    refine (tableBig_c o1 b1.size hl 0 (by omega) 4 (by omega)).mono ?_
    rintro e w2 ⟨v2, rfl, o2, b2⟩
    have O2 := Lib.hid o2
    have B2 := Lib.hid (b1.trans b2)
    clear o1 b1 o2 b2
    go_wp2_with (at_builtin; refine app_b (w0 := w) (base := w.heap.size) (l := l ++ beB 0 4) (m := []) rfl (.tmp 76) (.tmp 77) rfl rfl rfl O2.out (ob_rb (ob_nil _ 0)) B2.out B2.out.size (by simp [beB_len]; omega) ?_; intro v4 w4 o4 b4 _ _; have O4 := Lib.hid o4; clear o4)
    go_ret2
    exact ⟨_, rfl, b4⟩

set_option maxRecDepth 100000 in
set_option maxHeartbeats 1000000 in
theorem head5_c {w : World} : Calls Tryd.prog 14 #[.int .i64 5, .slice none 0 0, .bool true] w fun e w' => ∃ v', e = .returned (.tuple #[v', .int .i64 0]) ∧ OB w' w.heap.size v' [0, 60, 0, 0, 0, 0, 0, 0, 0, 0, 0, 5, 16, 0, 2] ∧ Below w.heap.size w w' := by
  go_enter Tryd.func14, Tryd.ntmps14
  go_wp2_with fail
  refine (put_c2 (base := w.heap.size) (ob_nil _ _) (Nat.le_refl _) (by simp) 60 2 (by omega) (by omega) 60 2 rfl rfl).mono ?_
  rintro e w1 ⟨v1, rfl, o1, b1⟩
  go_wp2_with fail
  refine (put_c2 (base := w.heap.size) o1 b1.size (by simp [beB_len]) 0 2 (by omega) (by omega) 0 2 rfl rfl).mono ?_
  rintro e w2 ⟨v2, rfl, o2, b2⟩
  have B2 := b1.trans b2
  go_wp2_with fail
  refine (put_c2 (base := w.heap.size) o2 B2.size (by simp [beB_len]) 5 8 (by omega) (by omega) 5 8 rfl rfl).mono ?_
  rintro e w3 ⟨v3, rfl, o3, b3⟩
  have B3 := B2.trans b3
  go_wp2_with fail
  refine (put_c2 (base := w.heap.size) o3 B3.size (by simp [beB_len]) 4096 2 (by omega) (by omega) 4096 2 rfl rfl).mono ?_
  rintro e w4 ⟨v4, rfl, o4, b4⟩
  have B4 := B3.trans b4
  go_wp2_with fail
  refine (putNil_c o4 (by simp [beB_len])).mono ?_
  rintro e w5 ⟨v5, rfl, b5⟩
  have o5 := own_below o4 b5
  have B5 := B4.trans (b5.mono B4.size)
  go_wp2_with fail
  refine (put_c2 (base := w.heap.size) o5 B5.size (by simp [beB_len]) 2 1 (by omega) (by omega) 2 1 rfl rfl).mono ?_
  rintro e w6 ⟨v6, rfl, o6, b6⟩
  go_wp2_with fail
  go_ret2
  exact ⟨v6, rfl, o6, B5.trans b6⟩

set_option maxRecDepth 100000 in
set_option maxHeartbeats 2000000 in
theorem wakes_c {w : World} : Calls Tryd.prog 8 #[] w fun e w' => e = .returned (.bool true) ∧ Below w.heap.size w w' := by
  go_enter Tryd.func8, Tryd.ntmps8
  go_wp2_with fail
  refine (encode_c 8 0 ByteArray.empty (by decide)).mono ?_
  rintro e w1 ⟨b1, h1⟩
  rw [if_pos (by decide)] at h1
  obtain ⟨v1, rfl, o1⟩ := h1
  have O1 := Lib.hid o1
  clear o1
  go_wp2_with fail
  refine head5_c.mono ?_
  rintro e w2 ⟨v2, rfl, o2, b2⟩
  have O2 := Lib.hid o2
  have B2 := b1.trans (b2.mono b1.size)
  clear o2
  go_wp2_with fail
  refine (next_c ⟨#[71, 69, 84, 32, 47]⟩ (by decide)).mono ?_
  rw [show nxA ⟨#[71, 69, 84, 32, 47]⟩ = .tuple #[.agg #[.int .i64 0, .int .i64 0, .string ByteArray.empty], .int .i64 0, .int .i64 40] from nxA_err (k := 40) (by decide +kernel) (by decide)]
  rintro e w3 ⟨rfl, b3⟩
  have b4 := b3.alloc b3.size (.cells #[.int .i64 0, .int .i64 0, .string ByteArray.empty] 23)
  have hc1 := rb_string (rb_below (ob_rb O1.out) (b2.trans (b4.mono b2.size)))
  rw [show (⟨(encB (Int.toNat 8) (Int.toNat 0) ByteArray.empty.data.toList).toArray⟩ : ByteArray) = ⟨#[8, 0, 0, 0, 0, 0, 0, 206]⟩ by decide +kernel] at hc1
  have hc2 := rb_string (rb_below (ob_rb O2.out) b4)
  clear b1 b2
  go_wp2_with fail
  go_ret
  exact ⟨rfl, B2.trans (b4.mono B2.size)⟩
end Go.Proofs.YtbniandbmabdbaaDoor.Af
