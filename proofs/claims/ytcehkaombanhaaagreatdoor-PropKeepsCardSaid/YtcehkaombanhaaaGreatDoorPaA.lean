/- Layer 7: the order of values: flt.Key, flt.Compare, prop.Compare. -/
import Derived.Test.YtcehkaombanhaaaGreatDoorPaP
import Derived.Test.YtcehkaombanhaaaGreatDoorTbH
namespace Go.Proofs.YtcehkaombanhaaaGreatDoor
open Go Go.RowKit
open Go.ChangeShapes Go.WideShapes Go.Deep Go.Sort
set_option linter.unusedSimpArgs false
set_option linter.unusedVariables false

theorem xor_max (c : Nat) (h : c < 18446744073709551616) : bits BinOp.xor IntKind.u64 IntKind.u64.max (c : Int) = ((18446744073709551615 - c : Nat) : Int) := by
  have hm : (BitVec.ofInt 64 18446744073709551615 ^^^ BitVec.ofInt 64 (c : Int)).toNat = 18446744073709551615 - c := by
    have h1 : BitVec.ofInt 64 18446744073709551615 = BitVec.allOnes 64 := by decide
    rw [h1, BitVec.ofInt_natCast, BitVec.allOnes_xor, BitVec.toNat_not, BitVec.toNat_ofNat, Nat.mod_eq_of_lt (by omega)]
  show IntKind.u64.wrap (((BitVec.ofInt 64 18446744073709551615 ^^^ BitVec.ofInt 64 (c : Int)).toNat : Nat) : Int) = _
  rw [hm, IntKind.wrap_u64]
  omega
theorem or_top (c : Nat) (h : c < 9223372036854775808) : bits BinOp.or IntKind.u64 (c : Int) 9223372036854775808 = ((c + 9223372036854775808 : Nat) : Int) := by
  have hm : (BitVec.ofInt 64 (c : Int) ||| BitVec.ofInt 64 (9223372036854775808 : Int)).toNat = c + 9223372036854775808 := by
    have h3 : BitVec.ofInt 64 (9223372036854775808 : Int) = BitVec.ofNat 64 9223372036854775808 := by decide
    rw [h3, BitVec.ofInt_natCast, BitVec.toNat_or, BitVec.toNat_ofNat, BitVec.toNat_ofNat, Nat.mod_eq_of_lt (by omega), Nat.mod_eq_of_lt (by omega)]
    have h4 := Nat.two_pow_add_eq_or_of_lt (i := 63) (b := c) (by omega) 1
    rw [Nat.or_comm, show (9223372036854775808 : Nat) = 2 ^ 63 * 1 from rfl, ← h4]
    omega
  show IntKind.u64.wrap (((BitVec.ofInt 64 (c : Int) ||| BitVec.ofInt 64 (9223372036854775808 : Int)).toNat : Nat) : Int) = _
  rw [hm, IntKind.wrap_u64]
  omega

set_option maxRecDepth 100000 in
theorem key_c {w : World} (r : Nat) (h : r < 18446744073709551616) :
    Calls Tryz.prog 72 #[.float .f64 r] w fun e w' => e = .returned (.int .u64 (keyB r)) ∧ w = w' := by
  have hl := canon_lt h
  have q := bits64_run
  obtain ⟨c, hc⟩ : ∃ c, c = canonR r := ⟨_, rfl⟩
  have HC := Lib.hid hc
  have HK : Hid (Calls Tryz.prog 40 #[.float .f64 r] w fun e w' => e = .returned (.float .f64 c) ∧ w = w') := Lib.hid (by rw [hc]; exact canon_c r)
  rw [← hc] at hl
  clear h hc
  by_cases hb : 9223372036854775808 ≤ c
  · have e : keyB r = 18446744073709551615 - c := by unfold keyB; rw [← HC.out, if_pos hb]
    rw [e]
    clear e
    go_enter Tryz.func72, Tryz.ntmps72
    go_wp2_with fail
    refine (HK.out).mono ?_
    rintro e w1 ⟨rfl, rfl⟩
    go_wp2_with fail
    go_ret
    exact ⟨by rw [xor_max c hl]; rfl, rfl⟩
  · have e : keyB r = c + 9223372036854775808 := by unfold keyB; rw [← HC.out, if_neg hb]
    rw [e]
    clear e
    go_enter Tryz.func72, Tryz.ntmps72
    go_wp2_with fail
    refine (HK.out).mono ?_
    rintro e w1 ⟨rfl, rfl⟩
    have hq : ((c : Int) / 9223372036854775808 == 1) = false := beq_eq_false_iff_ne.2 (by omega)
    go_wp2_with fail
    go_ret
    exact ⟨by rw [or_top c (by omega)]; rfl, rfl⟩

set_option maxRecDepth 100000 in
theorem cmpU_c {w : World} (x y : Int) :
    Calls Tryz.prog 71 #[.int .u64 x, .int .u64 y] w fun e w' => e = .returned (.int .i64 (Lib.compareInt x y)) ∧ w' = w := by
  go_enter Tryz.func71, Tryz.ntmps71
  go_wp2
  all_goals (go_ret; refine ⟨?_, rfl⟩; unfold Lib.compareInt; (repeat' split) <;> first | rfl | (exfalso; omega))

set_option maxRecDepth 100000 in
set_option maxHeartbeats 1000000 in
theorem fltCompare_c {w : World} (r s : Nat) (hr : r < 18446744073709551616) (hs : s < 18446744073709551616) :
    Calls Tryz.prog 38 #[.float .f64 r, .float .f64 s] w fun e w' => e = .returned (.int .i64 (Lib.compareInt (keyB r) (keyB s))) ∧ w = w' := by
  have HR := Lib.hid (fun w => key_c (w := w) r hr)
  have HS := Lib.hid (fun w => key_c (w := w) s hs)
  clear hr hs
  go_enter Tryz.func38, Tryz.ntmps38
  go_wp2_with fail
  refine (HR.out _).mono ?_
  rintro e w1 ⟨rfl, rfl⟩
  go_wp2_with fail
  refine (HS.out _).mono ?_
  rintro e w1 ⟨rfl, rfl⟩
  go_wp2_with fail
  refine (cmpU_c _ _).mono ?_
  rintro e w1 ⟨rfl, rfl⟩
  go_wp2_with fail
  go_ret
  exact ⟨rfl, rfl⟩

theorem orI_drop {ns : List Int} {k : Nat} {x : Int} (h : ns[k]? = some x) : orI (ns.drop k) = if x = 0 then orI (ns.drop (k + 1)) else x := by
  have hl := (List.getElem?_eq_some_iff.1 h).1
  rw [List.drop_eq_getElem_cons hl]
  rw [List.getElem?_eq_getElem hl] at h
  injection h with h
  rw [h]
  rfl

set_option maxRecDepth 100000 in
set_option maxHeartbeats 1000000 in
theorem or_c {w : World} {v : Value} {ns : List Int} (hn : RI w v ns) :
    Calls Tryz.prog 35 #[v] w fun e w' => e = .returned (.int .i64 (orI ns)) ∧ Below w.heap.size w w' := by
  obtain ⟨A, c, rfl, hnc, hc, hlen, hA, hcell⟩ := hn
  have HC := Lib.hid hcell
  obtain ⟨o, ho⟩ : ∃ o, o = orI ns := ⟨_, rfl⟩
  have HO := Lib.hid ho
  rw [← ho]
  clear hcell hA hlen ho
  go_enter Tryz.func35, Tryz.ntmps35
  go_wp2_with fail
  go_loopw [8] (fun i wr => ∃ k : Nat, k ≤ ns.length ∧ i = .int .i64 k ∧ Hid (o = orI (ns.drop k)) ∧ Below w.heap.size w wr) (fun i _ => ns.length - (intOf i).toNat)
  case atStart => exact ⟨0, Nat.zero_le _, rfl, HO, Below.refl _ _⟩
  case round =>
    obtain ⟨k, hk, rfl, HK, b2⟩ := hrel
    by_cases hlt : k < ns.length
    · obtain ⟨y, hy⟩ : ∃ y, ns[k]? = some y := ⟨_, List.getElem?_eq_getElem hlt⟩
      obtain ⟨ad, rfl, hc1⟩ := HC.out k (.int .i64 y) (by simp [hy])
      have hcell := cell_below b2 (World.block_lt_of_cell? w _ hc1) hc1
      have hor := orI_drop hy
      rw [← HK.out] at hor
      by_cases h0 : y = 0
      · subst h0
        rw [if_pos rfl] at hor
        have HN := Lib.hid hor
        clear hy hc1 hor
        go_wp2_with fail
        go_roundw
        case rel => exact ⟨k + 1, by omega, by go_num, HN, b2⟩
        case measure => simp [intOf]; omega
      · rw [if_neg h0] at hor
        have hyb : (y == 0) = false := beq_eq_false_iff_ne.2 h0
        subst hor
        clear hy hc1
        go_wp2_with fail
        go_ret
        exact ⟨rfl, b2⟩
    · have hk2 : k = ns.length := by omega
      subst hk2
      have ho : o = 0 := by rw [HK.out, List.drop_length]; rfl
      subst ho
      clear hlt
      go_wp2_with fail
      go_ret
      exact ⟨rfl, b2⟩

theorem keep_alloc {W : World} {o : Obj} {b j : Nat} {u : Value} (hb : b < W.heap.size) (h : W.drew.cell? ⟨b, j, none⟩ = some u) : (W.alloc o).drew.cell? ⟨b, j, none⟩ = some u :=
  cell_below (((Below.refl W.heap.size W).alloc (Nat.le_refl _) o).drew) hb h

set_option maxRecDepth 100000 in
set_option maxHeartbeats 2000000 in
theorem compare_c {w : World} (a b : Val) (ha : a.r < 18446744073709551616) (hb : b.r < 18446744073709551616) :
    Calls Tryz.prog 10 #[a.v, b.v] w fun e w' => e = .returned (.int .i64 (valC a b)) ∧ Below w.heap.size w w' := by
  obtain ⟨k, n, t, r⟩ := a
  obtain ⟨k', n', t', r'⟩ := b
  unfold Val.v
  rw [valC_or]
  simp only at ha hb ⊢
  have HF := Lib.hid (fun w => fltCompare_c (w := w) r r' ha hb)
  clear ha hb
  have b1 := ((Below.refl w.heap.size w).alloc (Nat.le_refl _) (.cells #[.int .i64 k, .int .i64 n, .string t, .float .f64 r] 24)).alloc (by simp) (.cells #[.int .i64 k', .int .i64 n', .string t', .float .f64 r'] 24)
  obtain ⟨W, hW⟩ : ∃ W, W = (w.alloc (.cells #[.int .i64 k, .int .i64 n, .string t, .float .f64 r] 24)).alloc (.cells #[.int .i64 k', .int .i64 n', .string t', .float .f64 r'] 24) := ⟨_, rfl⟩
  have y : ∀ j u, (#[.int .i64 k, .int .i64 n, .string t, .float .f64 r] : Array Value)[j]? = some u → W.drew.cell? ⟨w.heap.size, j, none⟩ = some u := fun j u hj => by
    have h0 := new_cell (w := w) (cs := #[.int .i64 k, .int .i64 n, .string t, .float .f64 r]) (t := 24) j u hj
    rw [hW]
    exact cell_below (((Below.refl _ _).alloc (Nat.le_refl _) _).drew) (by simp) h0
  have y' : ∀ j u, (#[.int .i64 k', .int .i64 n', .string t', .float .f64 r'] : Array Value)[j]? = some u → W.drew.cell? ⟨w.heap.size + 1, j, none⟩ = some u := fun j u hj => by
    have h0 := new_cell (w := w.alloc (.cells #[.int .i64 k, .int .i64 n, .string t, .float .f64 r] 24)) (cs := #[.int .i64 k', .int .i64 n', .string t', .float .f64 r']) (t := 24) j u hj
    rw [hW]
    simpa using h0
  have hsW : w.heap.size + 1 < W.heap.size := by rw [hW]; simp
  have hs0 : w.heap.size < W.heap.size := Nat.lt_of_succ_lt hsW
  have hA0 : ∀ o : Obj, w.heap.size < (W.alloc o).drew.heap.size := fun o => by show _ < (W.heap.push _).size; rw [Array.size_push]; omega
  have hA1 : ∀ o : Obj, w.heap.size + 1 < (W.alloc o).drew.heap.size := fun o => by show _ < (W.heap.push _).size; rw [Array.size_push]; omega
  rw [← hW] at b1
  have HWW := Lib.hid hW
  have y0 := y 0 _ rfl
  have y1 := y 1 _ rfl
  have y2 := y 2 _ rfl
  have y3 := y 3 _ rfl
  have z0 := y' 0 _ rfl
  have z1 := y' 1 _ rfl
  have z2 := y' 2 _ rfl
  have z3 := y' 3 _ rfl
  clear y y' hW
  obtain ⟨e1, h1⟩ : ∃ e1, e1 = Lib.compareInt k k' := ⟨_, rfl⟩
  obtain ⟨e2, h2⟩ : ∃ e2, e2 = Lib.compareInt n n' := ⟨_, rfl⟩
  obtain ⟨e3, h3⟩ : ∃ e3, e3 = Lib.compareBytes t.data.toList t'.data.toList := ⟨_, rfl⟩
  obtain ⟨e4, h4⟩ : ∃ e4, e4 = Lib.compareInt (keyB r) (keyB r') := ⟨_, rfl⟩
  have c1 : ∀ W, Calls Tryz.prog 36 #[.int .i64 k, .int .i64 k'] W fun e w'' => e = .returned (.int .i64 e1) ∧ w'' = W := fun W => by rw [h1]; exact Tryz.cmp_Compare_int k k' W
  have c2 : ∀ W, Calls Tryz.prog 36 #[.int .i64 n, .int .i64 n'] W fun e w'' => e = .returned (.int .i64 e2) ∧ w'' = W := fun W => by rw [h2]; exact Tryz.cmp_Compare_int n n' W
  have c3 : ∀ W, Calls Tryz.prog 37 #[.string t, .string t'] W fun e w'' => e = .returned (.int .i64 e3) ∧ w'' = W := fun W => by rw [h3]; exact Tryz.strings_Compare t t' W
  have c4 : ∀ W, Calls Tryz.prog 38 #[.float .f64 r, .float .f64 r'] W fun e w'' => e = .returned (.int .i64 e4) ∧ W = w'' := fun W => by rw [h4]; exact HF.out W
  rw [← h1, ← h2, ← h3, ← h4]
  have HRI : Hid (RI (W.alloc (.cells #[.int .i64 e1, .int .i64 e2, .int .i64 e3, .int .i64 e4] 3)).drew (.slice (some ⟨W.heap.size, 0, none⟩) 4 4) [e1, e2, e3, e4]) := Lib.hid (rc_drew (rc_new W 3 4 1 [.int .i64 e1, .int .i64 e2, .int .i64 e3, .int .i64 e4] rfl (by omega)))
  have C1 := Lib.hid c1
  have C2 := Lib.hid c2
  have C3 := Lib.hid c3
  have C4 := Lib.hid c4
  clear h1 h2 h3 h4 c1 c2 c3 c4
  go_enter Tryz.func10, Tryz.ntmps10
  go_upto_region 1 with fail
  rw [← HWW.out]
  go_region_held3 (fun w' => w'.cell? ⟨w.heap.size, 0, none⟩ = some (.int .i64 k) ∧ w'.cell? ⟨w.heap.size, 1, none⟩ = some (.int .i64 n) ∧ w'.cell? ⟨w.heap.size, 2, none⟩ = some (.string t) ∧ w'.cell? ⟨w.heap.size, 3, none⟩ = some (.float .f64 r) ∧ w'.cell? ⟨w.heap.size + 1, 0, none⟩ = some (.int .i64 k') ∧ w'.cell? ⟨w.heap.size + 1, 1, none⟩ = some (.int .i64 n') ∧ w'.cell? ⟨w.heap.size + 1, 2, none⟩ = some (.string t') ∧ w'.cell? ⟨w.heap.size + 1, 3, none⟩ = some (.float .f64 r'))
    (first | exact ⟨y0, y1, y2, y3, z0, z1, z2, z3⟩ | exact ⟨keep_alloc hs0 y0, keep_alloc hs0 y1, keep_alloc hs0 y2, keep_alloc hs0 y3, keep_alloc hsW z0, keep_alloc hsW z1, keep_alloc hsW z2, keep_alloc hsW z3⟩ | go_keep)
    (first
      | (go_at_call 35; refine (or_c HRI.out).mono ?_; rintro e w5 ⟨rfl, b5⟩; have y0 := cell_below b5 (hA0 _) (keep_alloc hs0 y0); have y1 := cell_below b5 (hA0 _) (keep_alloc hs0 y1); have y2 := cell_below b5 (hA0 _) (keep_alloc hs0 y2); have y3 := cell_below b5 (hA0 _) (keep_alloc hs0 y3); have z0 := cell_below b5 (hA1 _) (keep_alloc hsW z0); have z1 := cell_below b5 (hA1 _) (keep_alloc hsW z1); have z2 := cell_below b5 (hA1 _) (keep_alloc hsW z2); have z3 := cell_below b5 (hA1 _) (keep_alloc hsW z3))
      | (go_at_call 38; refine (C4.out _).mono ?_; rintro e w5 ⟨rfl, rfl⟩)
      | (go_at_call 37; refine (C3.out _).mono ?_; rintro e w5 ⟨rfl, rfl⟩)
      | (go_at_call 36; with_reducible refine (C2.out _).mono ?_; rintro e w5 ⟨rfl, rfl⟩)
      | (go_at_call 36; with_reducible refine (C1.out _).mono ?_; rintro e w5 ⟨rfl, rfl⟩))
  have bE : Below w.heap.size w w5 := b1.trans ((((Below.refl _ W).alloc (Nat.le_refl _) _).drew.trans (b5.mono (by simp))).mono b1.size)
  go_wp2_with fail
  go_ret
  exact ⟨rfl, bE⟩
end Go.Proofs.YtcehkaombanhaaaGreatDoor
