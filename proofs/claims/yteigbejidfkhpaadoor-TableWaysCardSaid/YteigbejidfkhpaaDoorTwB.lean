/- TableWays: the statement's walk. -/
import Derived.Test.YteigbejidfkhpaaDoorTwA
import Derived.Test.YteigbejidfkhpaaDoorTkF
import Derived.Test.YteigbejidfkhpaaDoorTbU
import Derived.Test.YteigbejidfkhpaaDoorRfA
import Derived.Test.YteigbejidfkhpaaDoorTbG
import Derived.BigQuiet
import Derived.Deep.QuietTactic
import Derived.Deep.DeepCutAuto
import Derived.Deep.CutRange
namespace Go.Proofs.YteigbejidfkhpaaDoor
open Go Go.RowKit
set_option linter.unusedSimpArgs false
set_option linter.unusedVariables false

theorem ways_facts {w : World} {B : Nat} {v : Value} {n : Int} {b : Nat} (hv : OwnP w B v [wF b, wI n]) : ∃ g cap, v = .slice (some ⟨g, 0, none⟩) 2 cap ∧ 2 ≤ cap ∧ cap ≤ 9223372036854775807 ∧ w.cell? ⟨g, 0, none⟩ = some (.string ⟨#[102]⟩) ∧ w.cell? ⟨g, 4, none⟩ = some (.float .f64 (canonR b)) ∧ w.cell? ⟨g, 5, none⟩ = some (.string ⟨#[105]⟩) ∧ w.cell? ⟨g, 7, none⟩ = some (.int .i64 n) ∧
    Hid (Calls Tryd.prog 21 #[.slice (some ⟨g, 0, none⟩) 2 cap] w fun e w' => e = .returned (.bool true) ∧ Below w.heap.size w w') := by
  have hR := ownP_rpr hv
  rcases id hv with ⟨_, h⟩ | ⟨g, cap, rfl, _, _, hcap, hcap2, _⟩
  · cases h
  have HV := valid_c hR (fun p hp => by rcases List.mem_cons.1 hp with rfl | hp; exact (show (1 : Nat) ≤ 140737488351232 by omega); (obtain rfl := List.mem_singleton.1 hp; exact (show (1 : Nat) ≤ 140737488351232 by omega)))
  rw [valid_ways] at HV
  obtain ⟨A2, c2, hA2, hc2, hcell⟩ := props_at hR
  injection hA2 with hA2 _ hc3
  subst hA2 hc3
  obtain ⟨a, ha, q0, q1, q2, q3, q4⟩ := hcell 0 (wF b) rfl
  injection ha with ha
  subst ha
  obtain ⟨a, ha, p0, p1, p2, p3, p4⟩ := hcell 1 (wI n) rfl
  injection ha with ha
  subst ha
  exact ⟨g, cap, rfl, hcap, hcap2, q0, q4, p0, p2, Lib.hid HV⟩
theorem nan_eq {r : Nat} {x : Bool} (h : nanB r = x) : (FloatKind.f64.format.order r r == some .eq) = !x ∧ (FloatKind.f64.format.order r r != some .eq) = x := by
  unfold nanB at h
  refine ⟨?_, h⟩
  rw [← h, bne, Bool.not_not]
theorem rawSame_q {w : World} (r r' : Nat) : Calls Tryd.prog 22 #[.float .f64 r, .float .f64 r'] w fun e w' => e = .returned (.bool (decide (r = r'))) ∧ w' = w := (rawSame_c r r').mono fun e w' ⟨a, b⟩ => ⟨a, b.symm⟩

set_option maxRecDepth 1000000 in
set_option maxHeartbeats 4000000 in
theorem tableWays_c {w : World} (n : Int) (hn0 : -9223372036854775808 ≤ n) (hn1 : n ≤ 9223372036854775807) (b : Nat) (hb : b < 18446744073709551616) (turned : Bool) :
    Calls Tryd.prog 5 #[.int .i64 n, .int .u64 b, .bool turned] w fun e w' => e = .returned (.bool true) ∧ Below w.heap.size w w' := by
  have HN := Lib.hid (And.intro hn0 hn1)
  have HB := Lib.hid hb
  clear hn0 hn1 hb
  go_enter Tryd.func5, Tryd.ntmps5
  go_wp2_with fail
  refine wakes_c.mono ?_
  rintro e w1 ⟨rfl, b1⟩
  go_wp2_with fail
  refine (from_c b).mono ?_
  rintro e w2 ⟨rfl, rfl⟩
  go_wp2_with fail
  go_loopw [8] (fun i wr => ∃ z : Nat, (z = 1 ∨ z = 2 ∨ z = 4 ∨ z = 8 ∨ z = 16) ∧ i = .int .i64 z ∧ Below w.heap.size w wr) (fun i _ => 16 - (intOf i).toNat)
  case atStart => exact ⟨1, .inl rfl, rfl, b1⟩
  case round =>
    obtain ⟨z, hz, rfl, b2⟩ := hrel
    clear b1
    rcases hz with rfl | rfl | rfl | rfl | rfl
    · by_cases hlo : n < -128
      · go_wp2_with fail
        go_roundw
        case rel => exact ⟨2, by omega, rfl, b2⟩
        case measure => simp [intOf]; done
      · by_cases hhi : 128 ≤ n
        · have hlo2 : -128 ≤ n := by omega
          clear hlo
          go_wp2_with fail
          go_roundw
          case rel => exact ⟨2, by omega, rfl, b2⟩
          case measure => simp [intOf]; done
        · have hlo2 : -128 ≤ n := by omega
          have hhi2 : n < 128 := by omega
          clear hlo hhi
          have hu : IntKind.u64.wrap n = (uN n : Int) := by rw [show IntKind.u64.wrap n = n % 18446744073709551616 from rfl]; unfold uN; omega
          have hu2 : n % 18446744073709551616 = (uN n : Int) := by unfold uN; omega
          have HU := Lib.hid (show uN n < 18446744073709551616 by unfold uN; omega)
          go_wp2_with (at_builtin; refine app_b (w0 := wr) (base := wr.heap.size) (l := []) (m := [1, 105, 98]) rfl (.tmp 44) (.tmp 48) rfl rfl rfl (ob_nil _ _) (rc_new wr 5 3 1 (Lib.byteCells [1, 105, 98]) rfl (by omega)) ((Below.refl _ _).alloc (Nat.le_refl _) _) (by simp) (by simp) ?_; intro v9 w9 o9 b9 _ _; have O9 := Lib.hid o9; clear o9)
          refine (refBig_c O9.out b9.size (by simp) (uN n) HU.out 1 (by omega)).mono ?_
          rintro e w10 ⟨v10, rfl, o10, b10⟩
          have O10 := Lib.hid (show OB w10 wr.heap.size v10 (iB 1 n) from o10)
          have B10 := b9.trans b10
          clear o10 b9 b10 O9 hu hu2
          go_wp2_with (at_builtin; refine app_b (w0 := w10) (base := w10.heap.size) (l := []) (m := [1, 102, 100]) rfl (.tmp 55) (.tmp 56) rfl rfl rfl (ob_nil _ _) (rc_new w10 5 3 1 (Lib.byteCells [1, 102, 100]) rfl (by omega)) ((Below.refl _ _).alloc (Nat.le_refl _) _) (by simp) (by simp) ?_; intro v11 w11 o11 b11 _ _; have O11 := Lib.hid o11; clear o11)
          refine (refBig_c O11.out b11.size (by simp) b HB.out 8 (by omega)).mono ?_
          rintro e w12 ⟨v12, rfl, o12, b12⟩
          have O12 := Lib.hid (show RB w12 v12 (fB b) from ob_rb o12)
          have B12 := b11.trans b12
          have O10b := Lib.hid (rb_below (ob_rb O10.out) B12)
          have BB := b2.trans ((B10.trans (B12.mono B10.size)).mono b2.size)
          clear o12 b11 b12 O11 O10 B10 B12
          go_upto_if 66 with (at_builtin; first | (refine app_b (w0 := w12) (base := w12.heap.size) (l := [] ++ iB 1 n) (m := fB b) rfl (.tmp 63) (.tmp 64) rfl rfl rfl O63.out (rb_below O12.out b63) b63 b63.size (by rw [List.length_append, iB_len, fB_len]; simp) ?_; intro v65 w65 o65 b65 _ _; have O65 := Lib.hid o65; clear o65) | (refine app_b (w0 := w12) (base := w12.heap.size) (l := []) (m := iB 1 n) rfl (.tmp 61) (.tmp 62) rfl rfl rfl (World.ownsRow_made w12 #[] 0 (Nat.le_refl _) (Nat.zero_le _) (by simp)) (rc_alloc O10b.out _) ((Below.refl _ _).alloc (Nat.le_refl _) _) (by simp) (by rw [iB_len]; simp) ?_; intro v63 w63 o63 b63 _ _; have O63 := Lib.hid o63; clear o63))
          clear O63 b63
          go_cut [11] from 67 to 71 (fun s11 wx => Hid (OB wx w12.heap.size s11 (if turned = true then fB b ++ iB 1 n else iB 1 n ++ fB b)) ∧ Below w12.heap.size w12 wx)
          case first =>
            cases turned with
            | false =>
              go_wp2_with fail
              go_meet
              exact ⟨Lib.hid (by have := O65.out; simpa using this), b65⟩
            | true =>
              go_wp2_with (at_builtin; first | (refine app_b (w0 := w12) (base := w12.heap.size) (l := [] ++ fB b) (m := iB 1 n) rfl (.tmp 69) (.tmp 70) rfl rfl rfl O69.out (rb_below O10b.out b69) b69 b69.size (by rw [List.length_append, iB_len, fB_len]; simp) ?_; intro v71 w71 o71 b71 _ _; have O71 := Lib.hid o71; clear o71) | (refine app_b (w0 := w12) (base := w12.heap.size) (l := []) (m := fB b) rfl (.tmp 67) (.tmp 68) rfl rfl rfl (World.ownsRow_made w65 #[] 0 b65.size (Nat.zero_le _) (by simp)) (rc_alloc (rb_below O12.out b65) _) (b65.alloc b65.size _) (Nat.le_trans b65.size (by show _ ≤ (Array.push _ _).size; simp)) (by rw [fB_len]; simp) ?_; intro v69 w69 o69 b69 _ _; have O69 := Lib.hid o69; clear o69))
              go_meet
              exact ⟨Lib.hid (by have := O71.out; simpa using this), b71⟩
          case rest =>
            obtain ⟨HL, b13⟩ := hcut
            obtain ⟨l, hl⟩ : ∃ l, l = (if turned = true then fB b ++ iB 1 n else iB 1 n ++ fB b) := ⟨_, rfl⟩
            rw [← hl] at HL
            have hT := ways_tab (show okZ 1 n from .inl ⟨rfl, by omega, by omega⟩) HB.out turned l hl
            have hll : l.length = 15 := by rw [hl]; split <;> rw [List.length_append, iB_len, fB_len]
            obtain ⟨A, c, rfl, hc, _⟩ := id (ob_rb HL.out)
            have B13 := BB.trans (b13.mono BB.size)
            have HT := Lib.hid hT
            have HLL := Lib.hid hll
            clear hT hll hl O10b O12 BB b13 b2 O65 b65
            have hlw : IntKind.u64.wrap (l.length : Int) = (l.length : Int) := by rw [HLL.out]; rfl
            have hlw2 : (l.length : Int) % 18446744073709551616 = (l.length : Int) := by rw [HLL.out]; rfl
            go_wp2_with fail
            refine (refBig_c (w := wc) (base := wc.heap.size) (ob_nil _ _) (Nat.le_refl _) (by simp) l.length (by rw [HLL.out]; omega) 4 (by omega)).mono ?_
            rintro e w14 ⟨v14, rfl, o14, b14⟩
            have O14 := Lib.hid o14
            clear o14 hlw hlw2
            go_wp2_with (at_builtin; refine app_b (w0 := wc) (base := wc.heap.size) (l := [] ++ beB l.length 4) (m := l) rfl (.tmp 76) (.tmp 77) rfl rfl rfl O14.out (rb_below (ob_rb HL.out) b14) b14 b14.size (by rw [List.length_append, beB_len, HLL.out]; simp) ?_; intro v15 w15 o15 b15 _ _; have hcv := rb_string (ob_rb o15); rw [List.nil_append] at hcv; rw [show (⟨(beB l.length 4 ++ l).toArray⟩ : ByteArray) = bs (beB l.length 4 ++ l) from rfl] at hcv; clear o15)
            have hT2 := tTake_c (w := w15) (bs (beB l.length 4 ++ l)) (by rw [bs_size, List.length_append, beB_len, HLL.out]; omega)
            unfold TakePost at hT2
            rw [HT.out] at hT2
            dsimp only at hT2
            refine hT2.mono ?_
            rintro e w16 ⟨b16, v16, rfl, hv⟩
            have B16 := B13.trans ((b15.trans (b16.mono b15.size)).mono B13.size)
            obtain ⟨g, cap, rfl, hcap, hcap2, q0, q4, p0, p2, HV⟩ := ways_facts hv
            clear hT2 hv HL O14 b14 b15 b16 B13 HT
            go_wp2_with fail
            refine (HV.out).mono ?_
            rintro e w17 ⟨rfl, b17⟩
            have q5 := cell_below b17 (World.block_lt_of_cell? w16 _ q4) q4
            have B17 := B16.trans (b17.mono B16.size)
            clear q0 q4 p0 p2 HV b17 B16
            cases hnan : nanB b with
            | true =>
              have e : canonR b = 9221120237041090561 := by unfold canonR; rw [hnan]; rfl
              rw [e] at q5
              clear e
              obtain ⟨n1, n2⟩ := nan_eq hnan
              clear hnan
              have hk : (FloatKind.f64.format.order 9221120237041090561 9221120237041090561 == some .eq) = false := by decide +kernel
              go_wp2_with fail
              go_quiet ((go_at_call 22; with_reducible exact Calls.quiet_of_same (rawSame_q _ _)))
              go_wp2_with fail
              go_roundw
              case rel => exact ⟨2, by omega, rfl, B17.trans ((below_drewN w17 _).mono B17.size)⟩
              case measure => simp [intOf]; done
            | false =>
              have e : canonR b = b := by unfold canonR; rw [hnan]; rfl
              rw [e] at q5
              clear e
              obtain ⟨n1, n2⟩ := nan_eq hnan
              clear hnan
              go_wp2_with fail
              go_quiet ((go_at_call 22; with_reducible exact Calls.quiet_of_same (rawSame_q _ _)))
              go_wp2_with fail
              go_roundw
              case rel => exact ⟨2, by omega, rfl, B17.trans ((below_drewN w17 _).mono B17.size)⟩
              case measure => simp [intOf]; done
    · by_cases hlo : n < -32768
      · go_wp2_with fail
        go_roundw
        case rel => exact ⟨4, by omega, rfl, b2⟩
        case measure => simp [intOf]; done
      · by_cases hhi : 32768 ≤ n
        · have hlo2 : -32768 ≤ n := by omega
          clear hlo
          go_wp2_with fail
          go_roundw
          case rel => exact ⟨4, by omega, rfl, b2⟩
          case measure => simp [intOf]; done
        · have hlo2 : -32768 ≤ n := by omega
          have hhi2 : n < 32768 := by omega
          clear hlo hhi
          have hu : IntKind.u64.wrap n = (uN n : Int) := by rw [show IntKind.u64.wrap n = n % 18446744073709551616 from rfl]; unfold uN; omega
          have hu2 : n % 18446744073709551616 = (uN n : Int) := by unfold uN; omega
          have HU := Lib.hid (show uN n < 18446744073709551616 by unfold uN; omega)
          go_wp2_with (at_builtin; refine app_b (w0 := wr) (base := wr.heap.size) (l := []) (m := [1, 105, 115]) rfl (.tmp 44) (.tmp 48) rfl rfl rfl (ob_nil _ _) (rc_new wr 5 3 1 (Lib.byteCells [1, 105, 115]) rfl (by omega)) ((Below.refl _ _).alloc (Nat.le_refl _) _) (by simp) (by simp) ?_; intro v9 w9 o9 b9 _ _; have O9 := Lib.hid o9; clear o9)
          refine (refBig_c O9.out b9.size (by simp) (uN n) HU.out 2 (by omega)).mono ?_
          rintro e w10 ⟨v10, rfl, o10, b10⟩
          have O10 := Lib.hid (show OB w10 wr.heap.size v10 (iB 2 n) from o10)
          have B10 := b9.trans b10
          clear o10 b9 b10 O9 hu hu2
          go_wp2_with (at_builtin; refine app_b (w0 := w10) (base := w10.heap.size) (l := []) (m := [1, 102, 100]) rfl (.tmp 55) (.tmp 56) rfl rfl rfl (ob_nil _ _) (rc_new w10 5 3 1 (Lib.byteCells [1, 102, 100]) rfl (by omega)) ((Below.refl _ _).alloc (Nat.le_refl _) _) (by simp) (by simp) ?_; intro v11 w11 o11 b11 _ _; have O11 := Lib.hid o11; clear o11)
          refine (refBig_c O11.out b11.size (by simp) b HB.out 8 (by omega)).mono ?_
          rintro e w12 ⟨v12, rfl, o12, b12⟩
          have O12 := Lib.hid (show RB w12 v12 (fB b) from ob_rb o12)
          have B12 := b11.trans b12
          have O10b := Lib.hid (rb_below (ob_rb O10.out) B12)
          have BB := b2.trans ((B10.trans (B12.mono B10.size)).mono b2.size)
          clear o12 b11 b12 O11 O10 B10 B12
          go_upto_if 66 with (at_builtin; first | (refine app_b (w0 := w12) (base := w12.heap.size) (l := [] ++ iB 2 n) (m := fB b) rfl (.tmp 63) (.tmp 64) rfl rfl rfl O63.out (rb_below O12.out b63) b63 b63.size (by rw [List.length_append, iB_len, fB_len]; simp) ?_; intro v65 w65 o65 b65 _ _; have O65 := Lib.hid o65; clear o65) | (refine app_b (w0 := w12) (base := w12.heap.size) (l := []) (m := iB 2 n) rfl (.tmp 61) (.tmp 62) rfl rfl rfl (World.ownsRow_made w12 #[] 0 (Nat.le_refl _) (Nat.zero_le _) (by simp)) (rc_alloc O10b.out _) ((Below.refl _ _).alloc (Nat.le_refl _) _) (by simp) (by rw [iB_len]; simp) ?_; intro v63 w63 o63 b63 _ _; have O63 := Lib.hid o63; clear o63))
          clear O63 b63
          go_cut [11] from 67 to 71 (fun s11 wx => Hid (OB wx w12.heap.size s11 (if turned = true then fB b ++ iB 2 n else iB 2 n ++ fB b)) ∧ Below w12.heap.size w12 wx)
          case first =>
            cases turned with
            | false =>
              go_wp2_with fail
              go_meet
              exact ⟨Lib.hid (by have := O65.out; simpa using this), b65⟩
            | true =>
              go_wp2_with (at_builtin; first | (refine app_b (w0 := w12) (base := w12.heap.size) (l := [] ++ fB b) (m := iB 2 n) rfl (.tmp 69) (.tmp 70) rfl rfl rfl O69.out (rb_below O10b.out b69) b69 b69.size (by rw [List.length_append, iB_len, fB_len]; simp) ?_; intro v71 w71 o71 b71 _ _; have O71 := Lib.hid o71; clear o71) | (refine app_b (w0 := w12) (base := w12.heap.size) (l := []) (m := fB b) rfl (.tmp 67) (.tmp 68) rfl rfl rfl (World.ownsRow_made w65 #[] 0 b65.size (Nat.zero_le _) (by simp)) (rc_alloc (rb_below O12.out b65) _) (b65.alloc b65.size _) (Nat.le_trans b65.size (by show _ ≤ (Array.push _ _).size; simp)) (by rw [fB_len]; simp) ?_; intro v69 w69 o69 b69 _ _; have O69 := Lib.hid o69; clear o69))
              go_meet
              exact ⟨Lib.hid (by have := O71.out; simpa using this), b71⟩
          case rest =>
            obtain ⟨HL, b13⟩ := hcut
            obtain ⟨l, hl⟩ : ∃ l, l = (if turned = true then fB b ++ iB 2 n else iB 2 n ++ fB b) := ⟨_, rfl⟩
            rw [← hl] at HL
            have hT := ways_tab (show okZ 2 n from .inr (.inl ⟨rfl, by omega, by omega⟩)) HB.out turned l hl
            have hll : l.length = 16 := by rw [hl]; split <;> rw [List.length_append, iB_len, fB_len]
            obtain ⟨A, c, rfl, hc, _⟩ := id (ob_rb HL.out)
            have B13 := BB.trans (b13.mono BB.size)
            have HT := Lib.hid hT
            have HLL := Lib.hid hll
            clear hT hll hl O10b O12 BB b13 b2 O65 b65
            have hlw : IntKind.u64.wrap (l.length : Int) = (l.length : Int) := by rw [HLL.out]; rfl
            have hlw2 : (l.length : Int) % 18446744073709551616 = (l.length : Int) := by rw [HLL.out]; rfl
            go_wp2_with fail
            refine (refBig_c (w := wc) (base := wc.heap.size) (ob_nil _ _) (Nat.le_refl _) (by simp) l.length (by rw [HLL.out]; omega) 4 (by omega)).mono ?_
            rintro e w14 ⟨v14, rfl, o14, b14⟩
            have O14 := Lib.hid o14
            clear o14 hlw hlw2
            go_wp2_with (at_builtin; refine app_b (w0 := wc) (base := wc.heap.size) (l := [] ++ beB l.length 4) (m := l) rfl (.tmp 76) (.tmp 77) rfl rfl rfl O14.out (rb_below (ob_rb HL.out) b14) b14 b14.size (by rw [List.length_append, beB_len, HLL.out]; simp) ?_; intro v15 w15 o15 b15 _ _; have hcv := rb_string (ob_rb o15); rw [List.nil_append] at hcv; rw [show (⟨(beB l.length 4 ++ l).toArray⟩ : ByteArray) = bs (beB l.length 4 ++ l) from rfl] at hcv; clear o15)
            have hT2 := tTake_c (w := w15) (bs (beB l.length 4 ++ l)) (by rw [bs_size, List.length_append, beB_len, HLL.out]; omega)
            unfold TakePost at hT2
            rw [HT.out] at hT2
            dsimp only at hT2
            refine hT2.mono ?_
            rintro e w16 ⟨b16, v16, rfl, hv⟩
            have B16 := B13.trans ((b15.trans (b16.mono b15.size)).mono B13.size)
            obtain ⟨g, cap, rfl, hcap, hcap2, q0, q4, p0, p2, HV⟩ := ways_facts hv
            clear hT2 hv HL O14 b14 b15 b16 B13 HT
            go_wp2_with fail
            refine (HV.out).mono ?_
            rintro e w17 ⟨rfl, b17⟩
            have q5 := cell_below b17 (World.block_lt_of_cell? w16 _ q4) q4
            have B17 := B16.trans (b17.mono B16.size)
            clear q0 q4 p0 p2 HV b17 B16
            cases hnan : nanB b with
            | true =>
              have e : canonR b = 9221120237041090561 := by unfold canonR; rw [hnan]; rfl
              rw [e] at q5
              clear e
              obtain ⟨n1, n2⟩ := nan_eq hnan
              clear hnan
              have hk : (FloatKind.f64.format.order 9221120237041090561 9221120237041090561 == some .eq) = false := by decide +kernel
              go_wp2_with fail
              go_quiet ((go_at_call 22; with_reducible exact Calls.quiet_of_same (rawSame_q _ _)))
              go_wp2_with fail
              go_roundw
              case rel => exact ⟨4, by omega, rfl, B17.trans ((below_drewN w17 _).mono B17.size)⟩
              case measure => simp [intOf]; done
            | false =>
              have e : canonR b = b := by unfold canonR; rw [hnan]; rfl
              rw [e] at q5
              clear e
              obtain ⟨n1, n2⟩ := nan_eq hnan
              clear hnan
              go_wp2_with fail
              go_quiet ((go_at_call 22; with_reducible exact Calls.quiet_of_same (rawSame_q _ _)))
              go_wp2_with fail
              go_roundw
              case rel => exact ⟨4, by omega, rfl, B17.trans ((below_drewN w17 _).mono B17.size)⟩
              case measure => simp [intOf]; done
    · by_cases hlo : n < -2147483648
      · go_wp2_with fail
        go_roundw
        case rel => exact ⟨8, by omega, rfl, b2⟩
        case measure => simp [intOf]; done
      · by_cases hhi : 2147483648 ≤ n
        · have hlo2 : -2147483648 ≤ n := by omega
          clear hlo
          go_wp2_with fail
          go_roundw
          case rel => exact ⟨8, by omega, rfl, b2⟩
          case measure => simp [intOf]; done
        · have hlo2 : -2147483648 ≤ n := by omega
          have hhi2 : n < 2147483648 := by omega
          clear hlo hhi
          have hu : IntKind.u64.wrap n = (uN n : Int) := by rw [show IntKind.u64.wrap n = n % 18446744073709551616 from rfl]; unfold uN; omega
          have hu2 : n % 18446744073709551616 = (uN n : Int) := by unfold uN; omega
          have HU := Lib.hid (show uN n < 18446744073709551616 by unfold uN; omega)
          go_wp2_with (at_builtin; refine app_b (w0 := wr) (base := wr.heap.size) (l := []) (m := [1, 105, 73]) rfl (.tmp 44) (.tmp 48) rfl rfl rfl (ob_nil _ _) (rc_new wr 5 3 1 (Lib.byteCells [1, 105, 73]) rfl (by omega)) ((Below.refl _ _).alloc (Nat.le_refl _) _) (by simp) (by simp) ?_; intro v9 w9 o9 b9 _ _; have O9 := Lib.hid o9; clear o9)
          refine (refBig_c O9.out b9.size (by simp) (uN n) HU.out 4 (by omega)).mono ?_
          rintro e w10 ⟨v10, rfl, o10, b10⟩
          have O10 := Lib.hid (show OB w10 wr.heap.size v10 (iB 4 n) from o10)
          have B10 := b9.trans b10
          clear o10 b9 b10 O9 hu hu2
          go_wp2_with (at_builtin; refine app_b (w0 := w10) (base := w10.heap.size) (l := []) (m := [1, 102, 100]) rfl (.tmp 55) (.tmp 56) rfl rfl rfl (ob_nil _ _) (rc_new w10 5 3 1 (Lib.byteCells [1, 102, 100]) rfl (by omega)) ((Below.refl _ _).alloc (Nat.le_refl _) _) (by simp) (by simp) ?_; intro v11 w11 o11 b11 _ _; have O11 := Lib.hid o11; clear o11)
          refine (refBig_c O11.out b11.size (by simp) b HB.out 8 (by omega)).mono ?_
          rintro e w12 ⟨v12, rfl, o12, b12⟩
          have O12 := Lib.hid (show RB w12 v12 (fB b) from ob_rb o12)
          have B12 := b11.trans b12
          have O10b := Lib.hid (rb_below (ob_rb O10.out) B12)
          have BB := b2.trans ((B10.trans (B12.mono B10.size)).mono b2.size)
          clear o12 b11 b12 O11 O10 B10 B12
          go_upto_if 66 with (at_builtin; first | (refine app_b (w0 := w12) (base := w12.heap.size) (l := [] ++ iB 4 n) (m := fB b) rfl (.tmp 63) (.tmp 64) rfl rfl rfl O63.out (rb_below O12.out b63) b63 b63.size (by rw [List.length_append, iB_len, fB_len]; simp) ?_; intro v65 w65 o65 b65 _ _; have O65 := Lib.hid o65; clear o65) | (refine app_b (w0 := w12) (base := w12.heap.size) (l := []) (m := iB 4 n) rfl (.tmp 61) (.tmp 62) rfl rfl rfl (World.ownsRow_made w12 #[] 0 (Nat.le_refl _) (Nat.zero_le _) (by simp)) (rc_alloc O10b.out _) ((Below.refl _ _).alloc (Nat.le_refl _) _) (by simp) (by rw [iB_len]; simp) ?_; intro v63 w63 o63 b63 _ _; have O63 := Lib.hid o63; clear o63))
          clear O63 b63
          go_cut [11] from 67 to 71 (fun s11 wx => Hid (OB wx w12.heap.size s11 (if turned = true then fB b ++ iB 4 n else iB 4 n ++ fB b)) ∧ Below w12.heap.size w12 wx)
          case first =>
            cases turned with
            | false =>
              go_wp2_with fail
              go_meet
              exact ⟨Lib.hid (by have := O65.out; simpa using this), b65⟩
            | true =>
              go_wp2_with (at_builtin; first | (refine app_b (w0 := w12) (base := w12.heap.size) (l := [] ++ fB b) (m := iB 4 n) rfl (.tmp 69) (.tmp 70) rfl rfl rfl O69.out (rb_below O10b.out b69) b69 b69.size (by rw [List.length_append, iB_len, fB_len]; simp) ?_; intro v71 w71 o71 b71 _ _; have O71 := Lib.hid o71; clear o71) | (refine app_b (w0 := w12) (base := w12.heap.size) (l := []) (m := fB b) rfl (.tmp 67) (.tmp 68) rfl rfl rfl (World.ownsRow_made w65 #[] 0 b65.size (Nat.zero_le _) (by simp)) (rc_alloc (rb_below O12.out b65) _) (b65.alloc b65.size _) (Nat.le_trans b65.size (by show _ ≤ (Array.push _ _).size; simp)) (by rw [fB_len]; simp) ?_; intro v69 w69 o69 b69 _ _; have O69 := Lib.hid o69; clear o69))
              go_meet
              exact ⟨Lib.hid (by have := O71.out; simpa using this), b71⟩
          case rest =>
            obtain ⟨HL, b13⟩ := hcut
            obtain ⟨l, hl⟩ : ∃ l, l = (if turned = true then fB b ++ iB 4 n else iB 4 n ++ fB b) := ⟨_, rfl⟩
            rw [← hl] at HL
            have hT := ways_tab (show okZ 4 n from .inr (.inr (.inl ⟨rfl, by omega, by omega⟩))) HB.out turned l hl
            have hll : l.length = 18 := by rw [hl]; split <;> rw [List.length_append, iB_len, fB_len]
            obtain ⟨A, c, rfl, hc, _⟩ := id (ob_rb HL.out)
            have B13 := BB.trans (b13.mono BB.size)
            have HT := Lib.hid hT
            have HLL := Lib.hid hll
            clear hT hll hl O10b O12 BB b13 b2 O65 b65
            have hlw : IntKind.u64.wrap (l.length : Int) = (l.length : Int) := by rw [HLL.out]; rfl
            have hlw2 : (l.length : Int) % 18446744073709551616 = (l.length : Int) := by rw [HLL.out]; rfl
            go_wp2_with fail
            refine (refBig_c (w := wc) (base := wc.heap.size) (ob_nil _ _) (Nat.le_refl _) (by simp) l.length (by rw [HLL.out]; omega) 4 (by omega)).mono ?_
            rintro e w14 ⟨v14, rfl, o14, b14⟩
            have O14 := Lib.hid o14
            clear o14 hlw hlw2
            go_wp2_with (at_builtin; refine app_b (w0 := wc) (base := wc.heap.size) (l := [] ++ beB l.length 4) (m := l) rfl (.tmp 76) (.tmp 77) rfl rfl rfl O14.out (rb_below (ob_rb HL.out) b14) b14 b14.size (by rw [List.length_append, beB_len, HLL.out]; simp) ?_; intro v15 w15 o15 b15 _ _; have hcv := rb_string (ob_rb o15); rw [List.nil_append] at hcv; rw [show (⟨(beB l.length 4 ++ l).toArray⟩ : ByteArray) = bs (beB l.length 4 ++ l) from rfl] at hcv; clear o15)
            have hT2 := tTake_c (w := w15) (bs (beB l.length 4 ++ l)) (by rw [bs_size, List.length_append, beB_len, HLL.out]; omega)
            unfold TakePost at hT2
            rw [HT.out] at hT2
            dsimp only at hT2
            refine hT2.mono ?_
            rintro e w16 ⟨b16, v16, rfl, hv⟩
            have B16 := B13.trans ((b15.trans (b16.mono b15.size)).mono B13.size)
            obtain ⟨g, cap, rfl, hcap, hcap2, q0, q4, p0, p2, HV⟩ := ways_facts hv
            clear hT2 hv HL O14 b14 b15 b16 B13 HT
            go_wp2_with fail
            refine (HV.out).mono ?_
            rintro e w17 ⟨rfl, b17⟩
            have q5 := cell_below b17 (World.block_lt_of_cell? w16 _ q4) q4
            have B17 := B16.trans (b17.mono B16.size)
            clear q0 q4 p0 p2 HV b17 B16
            cases hnan : nanB b with
            | true =>
              have e : canonR b = 9221120237041090561 := by unfold canonR; rw [hnan]; rfl
              rw [e] at q5
              clear e
              obtain ⟨n1, n2⟩ := nan_eq hnan
              clear hnan
              have hk : (FloatKind.f64.format.order 9221120237041090561 9221120237041090561 == some .eq) = false := by decide +kernel
              go_wp2_with fail
              go_quiet ((go_at_call 22; with_reducible exact Calls.quiet_of_same (rawSame_q _ _)))
              go_wp2_with fail
              go_roundw
              case rel => exact ⟨8, by omega, rfl, B17.trans ((below_drewN w17 _).mono B17.size)⟩
              case measure => simp [intOf]; done
            | false =>
              have e : canonR b = b := by unfold canonR; rw [hnan]; rfl
              rw [e] at q5
              clear e
              obtain ⟨n1, n2⟩ := nan_eq hnan
              clear hnan
              go_wp2_with fail
              go_quiet ((go_at_call 22; with_reducible exact Calls.quiet_of_same (rawSame_q _ _)))
              go_wp2_with fail
              go_roundw
              case rel => exact ⟨8, by omega, rfl, B17.trans ((below_drewN w17 _).mono B17.size)⟩
              case measure => simp [intOf]; done
    · have hlo2 := HN.out.1
      have hhi2 := HN.out.2
      have hu : IntKind.u64.wrap n = (uN n : Int) := by rw [show IntKind.u64.wrap n = n % 18446744073709551616 from rfl]; unfold uN; omega
      have hu2 : n % 18446744073709551616 = (uN n : Int) := by unfold uN; omega
      have HU := Lib.hid (show uN n < 18446744073709551616 by unfold uN; omega)
      go_wp2_with (at_builtin; refine app_b (w0 := wr) (base := wr.heap.size) (l := []) (m := [1, 105, 108]) rfl (.tmp 44) (.tmp 48) rfl rfl rfl (ob_nil _ _) (rc_new wr 5 3 1 (Lib.byteCells [1, 105, 108]) rfl (by omega)) ((Below.refl _ _).alloc (Nat.le_refl _) _) (by simp) (by simp) ?_; intro v9 w9 o9 b9 _ _; have O9 := Lib.hid o9; clear o9)
      refine (refBig_c O9.out b9.size (by simp) (uN n) HU.out 8 (by omega)).mono ?_
      rintro e w10 ⟨v10, rfl, o10, b10⟩
      have O10 := Lib.hid (show OB w10 wr.heap.size v10 (iB 8 n) from o10)
      have B10 := b9.trans b10
      clear o10 b9 b10 O9 hu hu2
      go_wp2_with (at_builtin; refine app_b (w0 := w10) (base := w10.heap.size) (l := []) (m := [1, 102, 100]) rfl (.tmp 55) (.tmp 56) rfl rfl rfl (ob_nil _ _) (rc_new w10 5 3 1 (Lib.byteCells [1, 102, 100]) rfl (by omega)) ((Below.refl _ _).alloc (Nat.le_refl _) _) (by simp) (by simp) ?_; intro v11 w11 o11 b11 _ _; have O11 := Lib.hid o11; clear o11)
      refine (refBig_c O11.out b11.size (by simp) b HB.out 8 (by omega)).mono ?_
      rintro e w12 ⟨v12, rfl, o12, b12⟩
      have O12 := Lib.hid (show RB w12 v12 (fB b) from ob_rb o12)
      have B12 := b11.trans b12
      have O10b := Lib.hid (rb_below (ob_rb O10.out) B12)
      have BB := b2.trans ((B10.trans (B12.mono B10.size)).mono b2.size)
      clear o12 b11 b12 O11 O10 B10 B12
      go_upto_if 66 with (at_builtin; first | (refine app_b (w0 := w12) (base := w12.heap.size) (l := [] ++ iB 8 n) (m := fB b) rfl (.tmp 63) (.tmp 64) rfl rfl rfl O63.out (rb_below O12.out b63) b63 b63.size (by rw [List.length_append, iB_len, fB_len]; simp) ?_; intro v65 w65 o65 b65 _ _; have O65 := Lib.hid o65; clear o65) | (refine app_b (w0 := w12) (base := w12.heap.size) (l := []) (m := iB 8 n) rfl (.tmp 61) (.tmp 62) rfl rfl rfl (World.ownsRow_made w12 #[] 0 (Nat.le_refl _) (Nat.zero_le _) (by simp)) (rc_alloc O10b.out _) ((Below.refl _ _).alloc (Nat.le_refl _) _) (by simp) (by rw [iB_len]; simp) ?_; intro v63 w63 o63 b63 _ _; have O63 := Lib.hid o63; clear o63))
      clear O63 b63
      go_cut [11] from 67 to 71 (fun s11 wx => Hid (OB wx w12.heap.size s11 (if turned = true then fB b ++ iB 8 n else iB 8 n ++ fB b)) ∧ Below w12.heap.size w12 wx)
      case first =>
        cases turned with
        | false =>
          go_wp2_with fail
          go_meet
          exact ⟨Lib.hid (by have := O65.out; simpa using this), b65⟩
        | true =>
          go_wp2_with (at_builtin; first | (refine app_b (w0 := w12) (base := w12.heap.size) (l := [] ++ fB b) (m := iB 8 n) rfl (.tmp 69) (.tmp 70) rfl rfl rfl O69.out (rb_below O10b.out b69) b69 b69.size (by rw [List.length_append, iB_len, fB_len]; simp) ?_; intro v71 w71 o71 b71 _ _; have O71 := Lib.hid o71; clear o71) | (refine app_b (w0 := w12) (base := w12.heap.size) (l := []) (m := fB b) rfl (.tmp 67) (.tmp 68) rfl rfl rfl (World.ownsRow_made w65 #[] 0 b65.size (Nat.zero_le _) (by simp)) (rc_alloc (rb_below O12.out b65) _) (b65.alloc b65.size _) (Nat.le_trans b65.size (by show _ ≤ (Array.push _ _).size; simp)) (by rw [fB_len]; simp) ?_; intro v69 w69 o69 b69 _ _; have O69 := Lib.hid o69; clear o69))
          go_meet
          exact ⟨Lib.hid (by have := O71.out; simpa using this), b71⟩
      case rest =>
        obtain ⟨HL, b13⟩ := hcut
        obtain ⟨l, hl⟩ : ∃ l, l = (if turned = true then fB b ++ iB 8 n else iB 8 n ++ fB b) := ⟨_, rfl⟩
        rw [← hl] at HL
        have hT := ways_tab (show okZ 8 n from .inr (.inr (.inr ⟨rfl, by omega, by omega⟩))) HB.out turned l hl
        have hll : l.length = 22 := by rw [hl]; split <;> rw [List.length_append, iB_len, fB_len]
        obtain ⟨A, c, rfl, hc, _⟩ := id (ob_rb HL.out)
        have B13 := BB.trans (b13.mono BB.size)
        have HT := Lib.hid hT
        have HLL := Lib.hid hll
        clear hT hll hl O10b O12 BB b13 b2 O65 b65
        have hlw : IntKind.u64.wrap (l.length : Int) = (l.length : Int) := by rw [HLL.out]; rfl
        have hlw2 : (l.length : Int) % 18446744073709551616 = (l.length : Int) := by rw [HLL.out]; rfl
        go_wp2_with fail
        refine (refBig_c (w := wc) (base := wc.heap.size) (ob_nil _ _) (Nat.le_refl _) (by simp) l.length (by rw [HLL.out]; omega) 4 (by omega)).mono ?_
        rintro e w14 ⟨v14, rfl, o14, b14⟩
        have O14 := Lib.hid o14
        clear o14 hlw hlw2
        go_wp2_with (at_builtin; refine app_b (w0 := wc) (base := wc.heap.size) (l := [] ++ beB l.length 4) (m := l) rfl (.tmp 76) (.tmp 77) rfl rfl rfl O14.out (rb_below (ob_rb HL.out) b14) b14 b14.size (by rw [List.length_append, beB_len, HLL.out]; simp) ?_; intro v15 w15 o15 b15 _ _; have hcv := rb_string (ob_rb o15); rw [List.nil_append] at hcv; rw [show (⟨(beB l.length 4 ++ l).toArray⟩ : ByteArray) = bs (beB l.length 4 ++ l) from rfl] at hcv; clear o15)
        have hT2 := tTake_c (w := w15) (bs (beB l.length 4 ++ l)) (by rw [bs_size, List.length_append, beB_len, HLL.out]; omega)
        unfold TakePost at hT2
        rw [HT.out] at hT2
        dsimp only at hT2
        refine hT2.mono ?_
        rintro e w16 ⟨b16, v16, rfl, hv⟩
        have B16 := B13.trans ((b15.trans (b16.mono b15.size)).mono B13.size)
        obtain ⟨g, cap, rfl, hcap, hcap2, q0, q4, p0, p2, HV⟩ := ways_facts hv
        clear hT2 hv HL O14 b14 b15 b16 B13 HT
        go_wp2_with fail
        refine (HV.out).mono ?_
        rintro e w17 ⟨rfl, b17⟩
        have q5 := cell_below b17 (World.block_lt_of_cell? w16 _ q4) q4
        have B17 := B16.trans (b17.mono B16.size)
        clear q0 q4 p0 p2 HV b17 B16
        cases hnan : nanB b with
        | true =>
          have e : canonR b = 9221120237041090561 := by unfold canonR; rw [hnan]; rfl
          rw [e] at q5
          clear e
          obtain ⟨n1, n2⟩ := nan_eq hnan
          clear hnan
          have hk : (FloatKind.f64.format.order 9221120237041090561 9221120237041090561 == some .eq) = false := by decide +kernel
          go_wp2_with fail
          go_quiet ((go_at_call 22; with_reducible exact Calls.quiet_of_same (rawSame_q _ _)))
          go_wp2_with fail
          go_roundw
          case rel => exact ⟨16, by omega, rfl, B17.trans ((below_drewN w17 _).mono B17.size)⟩
          case measure => simp [intOf]; done
        | false =>
          have e : canonR b = b := by unfold canonR; rw [hnan]; rfl
          rw [e] at q5
          clear e
          obtain ⟨n1, n2⟩ := nan_eq hnan
          clear hnan
          go_wp2_with fail
          go_quiet ((go_at_call 22; with_reducible exact Calls.quiet_of_same (rawSame_q _ _)))
          go_wp2_with fail
          go_roundw
          case rel => exact ⟨16, by omega, rfl, B17.trans ((below_drewN w17 _).mono B17.size)⟩
          case measure => simp [intOf]; done
    · go_wp2_with fail
      go_ret
      exact ⟨rfl, b2⟩
end Go.Proofs.YteigbejidfkhpaaDoor
