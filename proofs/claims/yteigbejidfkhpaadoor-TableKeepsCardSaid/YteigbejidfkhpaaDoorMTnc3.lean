/- Texts of this claim, joined: TnA, TnB, OpenM. -/
import Derived.Test.YteigbejidfkhpaaDoorMTnc2
import Derived.Deep.DeepCutAuto
import Derived.Deep.CutRange
import Derived.Lib.SlBytesConst
/- TableBack: the statement's walk. -/
namespace Go.Proofs.YteigbejidfkhpaaDoor
open Go Go.RowKit
set_option linter.unusedSimpArgs false
set_option linter.unusedVariables false

theorem came_fit {ps : List Prp} (h : ∀ p ∈ ps, p.came) : ∀ p ∈ ps, p.r < 2 ^ 64 ∧ -9223372036854775808 ≤ p.n ∧ p.n ≤ 9223372036854775807 := fun p hp => ⟨(h p hp).2.2.1, (h p hp).2.2.2.1.1, (h p hp).2.2.2.1.2⟩
theorem app_bs (l : List UInt8) (s : ByteArray) : bs l ++ s = bs (l ++ s.data.toList) := by
  apply ba_ext
  rw [ByteArray.data_append, Array.toList_append, bs_list, bs_list]
theorem oi_ri {w : World} {B : Nat} {v : Value} {ns : List Int} (h : w.ownsRow B 3 1 v ns.length (ns.map (Value.int .i64))) : RI w v ns := own_rc h
theorem os_rs {w : World} {B : Nat} {v : Value} {ts : List ByteArray} (h : w.ownsRow B 9 1 v ts.length (ts.map Value.string)) : RS w v ts := own_rc h

set_option maxRecDepth 1000000 in
set_option maxHeartbeats 4000000 in
theorem tableBack_c {w : World} (m : Mth) {vl vn vt vp : Value} {ps : List Prp} (more : ByteArray) (hp : RPr w vl ps) (hc : ∀ p ∈ ps, p.came) (hm : MthIn w m vn vt vp) :
    Calls Tryd.prog 8 #[vl, .agg #[.int .i64 m.c, .int .i64 m.i, vn, vt, vp], .string more] w fun e w' => e = .returned (.bool true) ∧ Below w.heap.size w w' := by
  have bW := Lib.hid ((Below.refl w.heap.size w).alloc (Nat.le_refl _) (.cells #[.int .i64 m.c, .int .i64 m.i, vn, vt, vp] 26))
  have HM0 := Lib.hid (mb_new w m.c m.i vn vt vp)
  have HP := Lib.hid hp
  have HC := Lib.hid hc
  have HI := Lib.hid hm
  obtain ⟨Ap, cp, rfl⟩ := rc_any hp
  obtain ⟨An, cn, rfl⟩ := rc_any hm.rn
  obtain ⟨At, ct, rfl⟩ := rc_any hm.rt
  obtain ⟨Aq, cq, rfl⟩ := rc_any hm.rp
  clear hp hc hm
  go_enter Tryd.func8, Tryd.ntmps8
  go_wp2_with fail
  refine wakes_c.mono ?_
  rintro e w1 ⟨rfl, b1⟩
  have B1 := bW.out.trans (b1.mono bW.out.size)
  have M1 := mb_keeps HM0.out (keepsO_below b1)
  have HLG := Lib.hid (long_c (rc_below HP.out B1) (fun p hp => ⟨(HC.out p hp).1, (HC.out p hp).2.1⟩))
  go_wp2_with fail
  refine (HLG.out).mono ?_
  rintro e w2 ⟨lg, rfl, _, b2⟩
  have B2 := B1.trans (b2.mono B1.size)
  have M2 := Lib.hid (mb_keeps M1 (keepsO_below b2))
  have I2 := Lib.hid (mthIn_below HI.out B2)
  obtain ⟨m0, m1, m2, m3, m4⟩ := mb_facts M2.out
  clear b1 b2 HLG B1 M1 HM0
  cases lg with
  | true =>
    go_wp2_with fail
    go_ret
    exact ⟨rfl, B2⟩
  | false =>
    have HHV := Lib.hid (heavyIn I2.out)
    go_wp2_with fail
    refine (HHV.out).mono ?_
    rintro e w3 ⟨hv, rfl, _, b3⟩
    have B3 := B2.trans (b3.mono B2.size)
    have M3 := Lib.hid (mb_keeps M2.out (keepsO_below b3))
    clear b3 HHV M2 I2 B2 m0 m1 m2 m3 m4
    cases hv with
    | true =>
      go_wp2_with fail
      go_ret
      exact ⟨rfl, B3⟩
    | false =>
      by_cases hmo : 4096 < more.size
      · have hmI : (4096 : Int) < more.size := by omega
        clear hmo
        go_wp2_with fail
        go_ret
        exact ⟨rfl, B3⟩
      · have hmI : ¬ (4096 : Int) < more.size := by omega
        have HMO := Lib.hid (show more.size ≤ 4096 by omega)
        clear hmo
        go_upto_region 5 with fail
        clear hmI
        have kc := fun (w : World) (C : Array Value) (n c : Nat) => Lib.run_convert_bytes_const (P := Tryd.prog) w 29 5 C n c Tryd.underlying29 Tryd.underlying5
        have BA := Lib.hid (B3.alloc B3.size (.cells #[.int .u8 120] 5 (1, 2)))
        have RA := Lib.hid (show RB (w3.alloc (.cells #[.int .u8 120] 5 (1, 2))) (.slice (some ⟨w3.heap.size, 0, none⟩) 1 1) [120] from rc_new w3 5 1 1 (Lib.byteCells [120]) rfl (by omega))
        have MA := Lib.hid (mb_keeps M3.out (keepsO_below (below_al1 w3 (.cells #[.int .u8 120] 5 (1, 2)))))
        have PA := Lib.hid (rc_below HP.out BA.out)
        have HVL := Lib.hid (fun W (b : Below w.heap.size w W) => valid_c (rc_below HP.out b) (fun p hp => (HC.out p hp).1))
        cases hv : validB ps with
        | false =>
          have HPT := Lib.hid (putBad_c (v := .slice (some ⟨w3.heap.size, 0, none⟩) 1 1) PA.out (fun p hp => (HC.out p hp).1) hv)
          have HVF := Lib.hid hv
          clear hv
          go_wp2_with fail
          refine (HPT.out).mono ?_
          rintro e w4 ⟨rfl, b4⟩
          have B4 := BA.out.trans (b4.mono BA.out.size)
          have hV4 := HVL.out w4 B4
          rw [HVF.out] at hV4
          have HV4 := Lib.hid hV4
          have M4 := Lib.hid (mb_keeps MA.out (keepsO_below b4))
          clear b4 hV4 HPT
          go_wp2_with fail
          refine (HV4.out).mono ?_
          rintro e w5 ⟨rfl, b5⟩
          have B5 := Lib.hid (B4.trans (b5.mono B4.size))
          have M5 := Lib.hid (mb_keeps M4.out (keepsO_below b5))
          clear b5
          have IT := Lib.hid (mthIn_below HI.out B5.out)
          obtain ⟨m0, m1, m2, m3, m4⟩ := mb_facts M5.out
          have HEN := Lib.hid (encIn IT.out)
          clear HVL
          go_wp2_with fail
          refine (HEN.out).mono ?_
          intro e x1 h1
          obtain ⟨c1, h1⟩ := h1
          have BX1 := Lib.hid (B5.out.trans (c1.mono B5.out.size))
          have MX1 := Lib.hid (mb_keeps M5.out (keepsO_below c1))
          clear c1 HEN m0 m1 m2 m3 m4
          cases hmb : m.bytes with
          | none =>
            rw [hmb] at h1
            dsimp only at h1
            subst h1
            go_wp2_with fail
            go_ret
            exact ⟨rfl, BX1.out⟩
          | some l =>
            rw [hmb] at h1
            dsimp only at h1
            obtain ⟨v6, rfl, o6⟩ := h1
            have hsm := bytes_small hmb
            have hd1 : decP (bs l) = some m := by have h := dec_enc HI.out.fit hmb []; rw [List.append_nil, if_pos rfl] at h; exact h
            have hd2 : decP (bs (l ++ [120])) = none := by have h := dec_enc HI.out.fit hmb [120]; rw [if_neg (by simp)] at h; exact h
            have O6 := Lib.hid (ob_rb o6)
            have hcv : (convert 29 9 v6).run Tryd.prog x1 = .ok (.string (bs l)) x1 := rb_string (ob_rb o6)
            have hq := decode_c (w := x1) (bs l) (by rw [bs_size]; omega)
            unfold DecPost at hq
            rw [hd1] at hq
            have HQ := Lib.hid hq
            have HD2 := Lib.hid hd2
            have HSM := Lib.hid hsm
            clear hmb hsm hd1 hd2 o6 hq
            go_wp2_with fail
            refine (HQ.out).mono ?_
            rintro e x2 ⟨c2, wn, wt, wp, rfl, on, ot, op, _⟩
            obtain ⟨Bn, dn, rfl⟩ := rc_any (own_rc on)
            obtain ⟨Bt, dt, rfl⟩ := rc_any (own_rc ot)
            obtain ⟨Bp, dp, rfl⟩ := rc_any (ownP_rpr op)
            have BX2 := Lib.hid (BX1.out.trans (c2.mono BX1.out.size))
            have MX2 := mb_keeps MX1.out (keepsO_below c2)
            have al := below_al1 x2 (.cells #[.int .i64 m.c, .int .i64 m.i, .slice Bn m.ns.length dn, .slice Bt m.ts.length dt, .slice Bp m.ps.length dp] 26)
            have MX3 := Lib.hid (mb_keeps MX2 (keepsO_below al))
            have MY3 := Lib.hid (mb_new x2 m.c m.i (.slice Bn m.ns.length dn) (.slice Bt m.ts.length dt) (.slice Bp m.ps.length dp))
            have JT := mthIn_below (⟨oi_ri on, os_rs ot, ownP_rpr op, HI.out.fit, HI.out.nl, HI.out.tl, HI.out.tz, HI.out.pz⟩ : MthIn x2 m _ _ _) al
            have HSA := Lib.hid (sameIn JT (mthIn_below HI.out (BX2.out.trans (al.mono BX2.out.size))))
            have BX3 := Lib.hid (BX2.out.trans (al.mono BX2.out.size))
            have O7 := Lib.hid (rb_below (rb_below O6.out c2) al)
            clear c2 on ot op MX2 al JT HQ MX1 BX1 hcv
            obtain ⟨m0, m1, m2, m3, m4⟩ := mb_facts MX3.out
            obtain ⟨n0, n1, n2, n3, n4⟩ := mb_facts MY3.out
            go_wp2_with fail
            refine (HSA.out).mono ?_
            rintro e x4 ⟨bb, rfl, hbb, c4⟩
            obtain rfl : bb = true := by first | exact hbb.2 trivial | exact hbb.2 rfl | exact hbb
            have hcv2 : (convert 29 9 v6).run Tryd.prog x4 = .ok (.string (bs l)) x4 := rb_string (rb_below O7.out c4)
            have BX4 := Lib.hid (BX3.out.trans (c4.mono BX3.out.size))
            have hsz : (bs l).size + (⟨#[120]⟩ : ByteArray).size ≤ 9223372036854775807 := by rw [bs_size]; have := HSM.out; show l.length + 1 ≤ _; omega
            have hq := decode_c (w := x4) (bs l ++ ⟨#[120]⟩) (by rw [ByteArray.size_append, bs_size]; have := HSM.out; show l.length + 1 ≤ _; omega)
            unfold DecPost at hq
            rw [show bs l ++ ⟨#[120]⟩ = bs (l ++ [120]) from app_bs l ⟨#[120]⟩, HD2.out, ← show bs l ++ ⟨#[120]⟩ = bs (l ++ [120]) from app_bs l ⟨#[120]⟩] at hq
            have HQ := Lib.hid hq
            clear c4 hq m0 m1 m2 m3 m4 n0 n1 n2 n3 n4
            go_wp2_with fail
            refine (HQ.out).mono ?_
            rintro e x5 ⟨c5, rfl⟩
            go_wp2_with fail
            go_ret
            exact ⟨rfl, BX4.out.trans (c5.mono BX4.out.size)⟩
        | true =>
          have HPT := Lib.hid (put_c (base := 0) RA.out (by simp) PA.out (fun p hp => (HC.out p hp).1) (fun p hp => (HC.out p hp).2.2.1) hv)
          have HVF := Lib.hid hv
          clear hv
          go_wp2_with fail
          refine (HPT.out).mono ?_
          rintro e w4 ⟨v4, rfl, o4, b4⟩
          have B4 := BA.out.trans (b4.mono BA.out.size)
          have hV4 := HVL.out w4 B4
          rw [HVF.out] at hV4
          have HV4 := Lib.hid hV4
          have M4 := Lib.hid (mb_keeps MA.out (keepsO_below b4))
          have O4 := Lib.hid (show OB w4 (w3.alloc (.cells #[.int .u8 120] 5 (1, 2))).heap.size v4 (120 :: putB ps) from o4)
          clear b4 hV4 HPT o4
          go_wp2_with fail
          refine (HV4.out).mono ?_
          rintro e w5 ⟨rfl, b5⟩
          have B5 := Lib.hid (B4.trans (b5.mono B4.size))
          have M5 := Lib.hid (mb_keeps M4.out (keepsO_below b5))
          have R5 := Lib.hid (rb_below (ob_rb O4.out) b5)
          clear b5 O4
          obtain ⟨A4, d4, rfl⟩ := rc_any R5.out
          obtain ⟨k, hk⟩ : ∃ k, k = (putB ps).length := ⟨_, rfl⟩
          have HKE := Lib.hid hk
          have hks : k ≤ 5000 := by rw [hk]; have := props_small HVF.out; unfold putB; rw [List.length_append, beB_len]; omega
          have hcp : k + 1 ≤ d4 := by
            obtain ⟨_, _, e, h, _⟩ := id R5.out
            injection e with e1 e2 e3
            subst e3
            rw [hk]
            exact h
          have e1 : (120 :: putB ps).length = k + 1 := by rw [hk]; rfl
          have HE1 := Lib.hid e1
          have HMID := Lib.hid (fun j h1 h2 => rb_mid A4 d4 (120 :: putB ps) (by rw [HE1.out]; exact hcp) j h1 h2)
          obtain ⟨A5, hsl, hrb, _⟩ := rb_drop A4 d4 (120 :: putB ps) (by rw [e1]; exact hcp) 1 (by omega) (by rw [e1]; omega)
          have R6 := hrb _ R5.out
          have hcv : (convert 29 9 (.slice A5 k (d4 - 1))).run Tryd.prog w5 = .ok (.string (bs (putB ps))) w5 := by
            have h := rb_string R6
            rw [e1] at h
            exact h
          rw [e1] at hsl
          have hsl' : ∀ W : World, (Instr.slice 29 (.slice A4 (k + 1) d4) (some (.int .i64 1)) none none).run Tryd.prog W = .ok (.slice A5 k (d4 - 1)) W := hsl
          have R7 := Lib.hid R5.out
          rw [e1]
          have hb0 := rb_cell R5.out 0 120 rfl
          obtain ⟨ab, rfl, hb0⟩ := hb0
          rw [show ab.add 0 = ab by unfold Addr.add; simp] at hb0
          have hsz : (bs (putB ps)).size + more.size ≤ 9223372036854775807 := by rw [bs_size, ← hk]; have := HMO.out; omega
          have hq := tTake_c (w := w5) (bs (putB ps) ++ more) (by rw [ByteArray.size_append, bs_size, ← hk]; have := HMO.out; omega)
          unfold TakePost at hq
          rw [show tableP (bs (putB ps) ++ more) = some (ps, more) by rw [app_bs, tableP_put HVF.out (came_fit HC.out), bs_of]] at hq
          dsimp only at hq
          rw [show (((bs (putB ps) ++ more).size : Nat) : Int) - more.size = (k : Int) by rw [ByteArray.size_append, bs_size, ← hk]; omega] at hq
          have HQT := Lib.hid hq
          have hwk : IntKind.i64.wrap ((k : Int) + 1 - 1) = (k : Int) := by rw [show (k : Int) + 1 - 1 = k by omega]; exact IntWalk.i64_in _ (by omega)
          have hkI : (k : Int) ≤ 5000 := by omega
          have hk1 : (0 : Int) < (k : Int) + 1 := by omega
          clear hq hk hks hcp e1 hsl R6 hrb
          go_wp2_with fail
          refine (HQT.out).mono ?_
          rintro e w6 ⟨b6, v6, rfl, o6⟩
          have B6 := Lib.hid (B5.out.trans (b6.mono B5.out.size))
          have M6 := Lib.hid (mb_keeps M5.out (keepsO_below b6))
          have R8 := Lib.hid (rb_below R7.out b6)
          have hb1 := cell_below b6 (World.block_lt_of_cell? w5 _ hb0) hb0
          have HSS := Lib.hid (sameAll_c (ownP_rpr o6) (rc_below HP.out B6.out))
          clear b6 o6 HQT hcv hb0 R7
          go_wp2_with fail
          refine (HSS.out).mono ?_
          rintro e w7 ⟨bb, rfl, hbb, b7⟩
          obtain rfl : bb = true := by first | exact hbb.2 trivial | exact hbb.2 rfl | exact hbb
          have B7 := Lib.hid (B6.out.trans (b7.mono B6.out.size))
          have M7 := Lib.hid (mb_keeps M6.out (keepsO_below b7))
          have R9 := Lib.hid (rb_below R8.out b7)
          obtain ⟨w8, hw8⟩ : ∃ w8, w8 = w7 := ⟨_, rfl⟩
          have HW8 := Lib.hid hw8
          clear b7 hsl' hb1 hwk hk1 hbb M6 B6 R8 hw8
          go_wp2_with fail
          go_loopw [12] (fun i wx => ∃ j : Nat, 1 ≤ j ∧ j ≤ 20000 ∧ i = .int .i64 j ∧ Hid (Below w8.heap.size w8 wx)) (fun i _ => k + 1 - (intOf i).toNat)
          case atStart => exact ⟨1, by omega, by omega, rfl, Lib.hid (by rw [HW8.out]; exact Below.refl _ _)⟩
          case round =>
            obtain ⟨j, hj1, hj2, rfl, b8'⟩ := hrel
            have b8 := b8'.out
            rw [HW8.out] at b8
            have B8 := Lib.hid (B7.out.trans (b8.mono B7.out.size))
            by_cases hlt : j < k + 1
            · obtain ⟨v9, hmid, hmrb⟩ := HMID.out j hj1 (by rw [HE1.out]; omega)
              rw [HE1.out] at hmid
              have RM := hmrb _ (rb_below R9.out b8)
              have hl : (List.take j (120 :: putB ps)).drop 1 = (putB ps).take (j - 1) := by
                obtain ⟨i, rfl⟩ : ∃ i, j = i + 1 := ⟨j - 1, by omega⟩
                simp
              rw [hl] at RM
              have hcv : (convert 29 9 v9).run Tryd.prog wr = .ok (.string (bs ((putB ps).take (j - 1)))) wr := rb_string RM
              have hq := tTake_c (w := wr) (bs ((putB ps).take (j - 1))) (by rw [bs_size, List.length_take]; omega)
              unfold TakePost at hq
              rw [tableP_short HVF.out (by rw [← HKE.out]; omega)] at hq
              dsimp only at hq
              have HQT := Lib.hid hq
              have HB8 := Lib.hid b8
              have hltI : (j : Int) < (k : Int) + 1 := by omega
              have hj0 : (1 : Int) ≤ j := by omega
              have hjI : (j : Int) ≤ 5001 := by omega
              have HLT := Lib.hid hlt
              have HJ := Lib.hid (show 1 ≤ j ∧ j ≤ 5001 from ⟨hj1, by omega⟩)
              obtain ⟨s9, hs9⟩ : ∃ s9, s9 = bs ((putB ps).take (j - 1)) := ⟨_, rfl⟩
              rw [← hs9] at hcv HQT
              clear hq hl RM hmrb hlt b8 b8' hj1 hj2 hs9
              go_wp2_with fail
              refine (HQT.out).mono ?_
              rintro e w9 ⟨b9, rfl⟩
              go_wp2_with fail
              go_roundw
              case rel => exact ⟨j + (1 + (k + 1) / 40), by have := HJ.out; omega, by have := HJ.out; omega, by first | rfl | (congr 1; omega), Lib.hid (by rw [HW8.out]; exact HB8.out.trans (b9.mono HB8.out.size))⟩
              case measure => have := HLT.out; simp [intOf]; omega
            · have hltI : (k : Int) + 1 ≤ j := by omega
              have M8 := Lib.hid (mb_keeps M7.out (keepsO_below b8))
              clear hlt hj1 hj2 b8 b8'
              go_upto_region 18 with fail
              have IT := Lib.hid (mthIn_below HI.out B8.out)
              obtain ⟨m0, m1, m2, m3, m4⟩ := mb_facts M8.out
              have HEN := Lib.hid (encIn IT.out)
              clear HVL
              go_wp2_with fail
              refine (HEN.out).mono ?_
              intro e x1 h1
              obtain ⟨c1, h1⟩ := h1
              have BX1 := Lib.hid (B8.out.trans (c1.mono B8.out.size))
              have MX1 := Lib.hid (mb_keeps M8.out (keepsO_below c1))
              clear c1 HEN m0 m1 m2 m3 m4
              cases hmb : m.bytes with
              | none =>
                rw [hmb] at h1
                dsimp only at h1
                subst h1
                go_wp2_with fail
                go_ret
                exact ⟨rfl, BX1.out⟩
              | some l =>
                rw [hmb] at h1
                dsimp only at h1
                obtain ⟨v6, rfl, o6⟩ := h1
                have hsm := bytes_small hmb
                have hd1 : decP (bs l) = some m := by have h := dec_enc HI.out.fit hmb []; rw [List.append_nil, if_pos rfl] at h; exact h
                have hd2 : decP (bs (l ++ [120])) = none := by have h := dec_enc HI.out.fit hmb [120]; rw [if_neg (by simp)] at h; exact h
                have O6 := Lib.hid (ob_rb o6)
                have hcv : (convert 29 9 v6).run Tryd.prog x1 = .ok (.string (bs l)) x1 := rb_string (ob_rb o6)
                have hq := decode_c (w := x1) (bs l) (by rw [bs_size]; omega)
                unfold DecPost at hq
                rw [hd1] at hq
                have HQ := Lib.hid hq
                have HD2 := Lib.hid hd2
                have HSM := Lib.hid hsm
                clear hmb hsm hd1 hd2 o6 hq
                go_wp2_with fail
                refine (HQ.out).mono ?_
                rintro e x2 ⟨c2, wn, wt, wp, rfl, on, ot, op, _⟩
                obtain ⟨Bn, dn, rfl⟩ := rc_any (own_rc on)
                obtain ⟨Bt, dt, rfl⟩ := rc_any (own_rc ot)
                obtain ⟨Bp, dp, rfl⟩ := rc_any (ownP_rpr op)
                have BX2 := Lib.hid (BX1.out.trans (c2.mono BX1.out.size))
                have MX2 := mb_keeps MX1.out (keepsO_below c2)
                have al := below_al1 x2 (.cells #[.int .i64 m.c, .int .i64 m.i, .slice Bn m.ns.length dn, .slice Bt m.ts.length dt, .slice Bp m.ps.length dp] 26)
                have MX3 := Lib.hid (mb_keeps MX2 (keepsO_below al))
                have MY3 := Lib.hid (mb_new x2 m.c m.i (.slice Bn m.ns.length dn) (.slice Bt m.ts.length dt) (.slice Bp m.ps.length dp))
                have JT := mthIn_below (⟨oi_ri on, os_rs ot, ownP_rpr op, HI.out.fit, HI.out.nl, HI.out.tl, HI.out.tz, HI.out.pz⟩ : MthIn x2 m _ _ _) al
                have HSA := Lib.hid (sameIn JT (mthIn_below HI.out (BX2.out.trans (al.mono BX2.out.size))))
                have BX3 := Lib.hid (BX2.out.trans (al.mono BX2.out.size))
                have O7 := Lib.hid (rb_below (rb_below O6.out c2) al)
                clear c2 on ot op MX2 al JT HQ MX1 BX1 hcv
                obtain ⟨m0, m1, m2, m3, m4⟩ := mb_facts MX3.out
                obtain ⟨n0, n1, n2, n3, n4⟩ := mb_facts MY3.out
                go_wp2_with fail
                refine (HSA.out).mono ?_
                rintro e x4 ⟨bb, rfl, hbb, c4⟩
                obtain rfl : bb = true := by first | exact hbb.2 trivial | exact hbb.2 rfl | exact hbb
                have hcv2 : (convert 29 9 v6).run Tryd.prog x4 = .ok (.string (bs l)) x4 := rb_string (rb_below O7.out c4)
                have BX4 := Lib.hid (BX3.out.trans (c4.mono BX3.out.size))
                have hsz : (bs l).size + (⟨#[120]⟩ : ByteArray).size ≤ 9223372036854775807 := by rw [bs_size]; have := HSM.out; show l.length + 1 ≤ _; omega
                have hq := decode_c (w := x4) (bs l ++ ⟨#[120]⟩) (by rw [ByteArray.size_append, bs_size]; have := HSM.out; show l.length + 1 ≤ _; omega)
                unfold DecPost at hq
                rw [show bs l ++ ⟨#[120]⟩ = bs (l ++ [120]) from app_bs l ⟨#[120]⟩, HD2.out, ← show bs l ++ ⟨#[120]⟩ = bs (l ++ [120]) from app_bs l ⟨#[120]⟩] at hq
                have HQ := Lib.hid hq
                clear c4 hq m0 m1 m2 m3 m4 n0 n1 n2 n3 n4
                go_wp2_with fail
                refine (HQ.out).mono ?_
                rintro e x5 ⟨c5, rfl⟩
                go_wp2_with fail
                go_ret
                exact ⟨rfl, BX4.out.trans (c5.mono BX4.out.size)⟩
end Go.Proofs.YteigbejidfkhpaaDoor

/- TableKeeps: the statement's walk. -/
namespace Go.Proofs.YteigbejidfkhpaaDoor
open Go Go.RowKit
set_option linter.unusedSimpArgs false
set_option linter.unusedVariables false

/-- What Put leaves: bytes of the call's own and an error, told by the list alone. -/
def ptL (l : List UInt8) (ps : List Prp) : List UInt8 := if validB ps = true then l ++ beB (propsB ps).length 4 ++ propsB ps else []
def ptE (ps : List Prp) : Int := if validB ps = true then 0 else 36
def PutQ (w : World) (l : List UInt8) (ps : List Prp) (e : Ending) (w' : World) : Prop :=
  ∃ v, e = .returned (.tuple #[v, .int .i64 (ptE ps)]) ∧ OB w' w.heap.size v (ptL l ps) ∧ Below w.heap.size w w'
theorem putQ_c {w : World} {v vl : Value} {l : List UInt8} {ps : List Prp} (h : RB w v l) (hl : l.length ≤ 17592186044416) (hp : RPr w vl ps) (hc : ∀ p ∈ ps, p.came) :
    Calls Tryd.prog 14 #[v, vl] w (PutQ w l ps) := by
  cases hv : validB ps with
  | true =>
    refine (put_c (base := 0) h hl hp (fun p hp => (hc p hp).1) (fun p hp => (hc p hp).2.2.1) hv).mono ?_
    rintro e w' ⟨v', rfl, o, b⟩
    exact ⟨v', by unfold ptE; rw [if_pos hv], by unfold ptL; rw [if_pos hv]; exact o, b⟩
  | false =>
    refine (putBad_c hp (fun p hp => (hc p hp).1) hv).mono ?_
    rintro e w' ⟨rfl, b⟩
    exact ⟨_, by unfold ptE; rw [hv]; rfl, by unfold ptL; rw [hv]; exact ob_nil w' _, b⟩

theorem own_some {w : World} {B e s n c : Nat} {A : Option Addr} {xs : List Value} (h : w.ownsRow B e s (.slice A n c) n xs) (hn : 0 < n) : ∃ g, A = some ⟨g, 0, none⟩ := by
  rcases h.2 with ⟨h0, _⟩ | ⟨g, cap, cur, h0, _⟩
  · injection h0 with _ e2 _
    omega
  · injection h0 with e1 _ _
    exact ⟨g, e1⟩
theorem ownP_some {w : World} {B n c : Nat} {A : Option Addr} {ps : List Prp} (h : OwnP w B (.slice A n c) ps) (hn : 0 < n) : ∃ g, A = some ⟨g, 0, none⟩ := by
  rcases h with ⟨h0, _⟩ | ⟨g, cap, h0, _⟩
  · injection h0 with _ e2 _
    omega
  · injection h0 with e1 _ _
    exact ⟨g, e1⟩
/-- The cells of a row of properties are there. -/
def HasC (w : World) (A : Option Addr) (n : Nat) : Prop := ∀ g, A = some ⟨g, 0, none⟩ → ∀ j, j < n * 5 → (∃ u, w.cell? ⟨g, j, none⟩ = some u) ∧ w.frozen? ⟨g, j, none⟩ = false
theorem hasC_of {w : World} {B c : Nat} {A : Option Addr} {ps : List Prp} (h : OwnP w B (.slice A ps.length c) ps) : HasC w A ps.length := by
  rintro g rfl j hj
  rcases h with ⟨h0, _⟩ | ⟨g', cap, h0, _, _, _, _, h3⟩
  · cases h0
  · injection h0 with e1 _ _
    injection e1 with e1
    injection e1 with e1
    subst e1
    obtain ⟨a, b⟩ := h3 j (by rw [Sort.size_flatK]; simpa using hj)
    rw [Nat.zero_add] at a b
    exact ⟨⟨_, a⟩, b⟩
theorem hasC_at {w : World} {g n j : Nat} (h : HasC w (some ⟨g, 0, none⟩) n) (hj : j < n * 5) : (∃ u, w.cell? ⟨g, j, none⟩ = some u) ∧ w.frozen? ⟨g, j, none⟩ = false := h g rfl j hj
theorem hasC_set {w : World} {A : Option Addr} {n : Nat} (h : HasC w A n) (a : Addr) (u : Value) : HasC (w.setCell a u) A n := by
  intro g hg j hj
  obtain ⟨⟨x, hx⟩, hf⟩ := h g hg j hj
  obtain ⟨v', hv'⟩ := cell?_setCell_some (w := w) (p := a) (x := u) (q := ⟨g, j, none⟩) (v := x) hx
  exact ⟨⟨v', hv'⟩, by rw [World.frozen?_setCell]; exact hf⟩
/-- Three rows of a method's own. -/
structure KR (w : World) (B : Nat) (vn vt vp : Value) (m : Mth) : Prop where
  n : w.ownsRow B 3 1 vn m.ns.length (m.ns.map (Value.int .i64))
  t : w.ownsRow B 9 1 vt m.ts.length (m.ts.map Value.string)
  p : OwnP w B vp m.ps
theorem KR.kept {w w1 : World} {B : Nat} {vn vt vp : Value} {m : Mth} {row : Option Nat} (h : KR w B vn vt vp m) (hg : w.grownBy w1 row) (hr : ∀ k, row = some k → k < B) : KR w1 B vn vt vp m :=
  ⟨own_kept h.n hg (fun k e => own_low h.n (hr k e)), own_kept h.t hg (fun k e => own_low h.t (hr k e)), ownP_kept h.p hg (fun k e => ownP_low h.p (hr k e))⟩
theorem dec_nil_c (w : World) : Calls Tryd.prog 26 #[.string (bs [])] w fun e w' => Below w.heap.size w w' ∧ e = .returned (.tuple #[.agg #[.int .i64 0, .int .i64 0, .slice none 0 0, .slice none 0 0, .slice none 0 0], .int .i64 11]) := by
  have hq := decode_c (w := w) (bs []) (by rw [bs_size]; simp)
  unfold DecPost at hq
  rw [show decP (bs []) = none by decide +kernel] at hq
  exact hq
theorem decode_some_c {w : World} {s : ByteArray} {m : Mth} (h : decP s = some m) (hs : s.size ≤ 1073741824) : Calls Tryd.prog 26 #[.string s] w fun e w' => Below w.heap.size w w' ∧ ∃ vn vt vp, e = .returned (.tuple #[.agg #[.int .i64 m.c, .int .i64 m.i, vn, vt, vp], .int .i64 0]) ∧ w'.ownsRow w.heap.size 3 1 vn m.ns.length (m.ns.map (Value.int .i64)) ∧ w'.ownsRow w.heap.size 9 1 vt m.ts.length (m.ts.map Value.string) ∧ OwnP w' w.heap.size vp m.ps ∧ ∀ k, vn.ownBlock = some k → vp.ownBlock ≠ some k := by
  have hq := decode_c (w := w) s hs
  unfold DecPost at hq
  rw [h] at hq
  exact hq
set_option maxRecDepth 1000000 in
set_option maxHeartbeats 8000000 in
theorem tableKeeps_c {w : World} (m : Mth) {vl vn vt vp : Value} {ps : List Prp} (hp : RPr w vl ps) (hc : ∀ p ∈ ps, p.came) (hm : MthIn w m vn vt vp) :
    Calls Tryd.prog 7 #[vl, .agg #[.int .i64 m.c, .int .i64 m.i, vn, vt, vp]] w fun e w' => e = .returned (.bool true) ∧ Below w.heap.size w w' := by
  have bW := Lib.hid ((Below.refl w.heap.size w).alloc (Nat.le_refl _) (.cells #[.int .i64 m.c, .int .i64 m.i, vn, vt, vp] 26))
  have HM0 := Lib.hid (mb_new w m.c m.i vn vt vp)
  have HP := Lib.hid hp
  have HC := Lib.hid hc
  have HI := Lib.hid hm
  obtain ⟨Ap, cp, rfl⟩ := rc_any hp
  obtain ⟨An, cn, rfl⟩ := rc_any hm.rn
  obtain ⟨At, ct, rfl⟩ := rc_any hm.rt
  obtain ⟨Aq, cq, rfl⟩ := rc_any hm.rp
  clear hp hc hm
  go_enter Tryd.func7, Tryd.ntmps7
  go_wp2_with fail
  refine wakes_c.mono ?_
  rintro e w1 ⟨rfl, b1⟩
  have B1 := bW.out.trans (b1.mono bW.out.size)
  have M1 := mb_keeps HM0.out (keepsO_below b1)
  have HLG := Lib.hid (long_c (rc_below HP.out B1) (fun p hp => ⟨(HC.out p hp).1, (HC.out p hp).2.1⟩))
  go_wp2_with fail
  refine (HLG.out).mono ?_
  rintro e w2 ⟨lg, rfl, _, b2⟩
  have B2 := B1.trans (b2.mono B1.size)
  have M2 := Lib.hid (mb_keeps M1 (keepsO_below b2))
  have I2 := Lib.hid (mthIn_below HI.out B2)
  obtain ⟨m0, m1, m2, m3, m4⟩ := mb_facts M2.out
  clear b1 b2 HLG B1 M1 HM0
  cases lg with
  | true =>
    go_wp2_with fail
    go_ret
    exact ⟨rfl, B2⟩
  | false =>
    have HHV := Lib.hid (heavyIn I2.out)
    go_wp2_with fail
    refine (HHV.out).mono ?_
    rintro e w3 ⟨hv, rfl, _, b3⟩
    have B3 := B2.trans (b3.mono B2.size)
    have M3 := Lib.hid (mb_keeps M2.out (keepsO_below b3))
    clear b3 HHV M2 I2 B2 m0 m1 m2 m3 m4
    cases hv with
    | true =>
      go_wp2_with fail
      go_ret
      exact ⟨rfl, B3⟩
    | false =>
      have kc := fun (w : World) (C : Array Value) (n c : Nat) => Lib.run_convert_bytes_const (P := Tryd.prog) w 29 5 C n c Tryd.underlying29 Tryd.underlying5
      have BA := Lib.hid (B3.alloc B3.size (.cells #[.int .u8 97, .int .u8 98, .int .u8 99] 5 (3, 4)))
      have RA := Lib.hid (show RB (w3.alloc (.cells #[.int .u8 97, .int .u8 98, .int .u8 99] 5 (3, 4))) (.slice (some ⟨w3.heap.size, 0, none⟩) 3 3) [97, 98, 99] from rc_new w3 5 3 1 (Lib.byteCells [97, 98, 99]) rfl (by omega))
      have RA1 := Lib.hid (show RB (w3.alloc (.cells #[.int .u8 97, .int .u8 98, .int .u8 99] 5 (3, 4))) (.slice (some ⟨w3.heap.size, 0, none⟩) 1 3) [97] from rb_take RA.out rfl 1 (by omega))
      have MA := Lib.hid (mb_keeps M3.out (keepsO_below (below_al1 w3 (.cells #[.int .u8 97, .int .u8 98, .int .u8 99] 5 (3, 4)))))
      have HQ1 := Lib.hid (putQ_c RA1.out (by simp) (rc_below HP.out BA.out) HC.out)
      have HMB := Lib.hid (show w.heap.size < (w3.alloc (.cells #[.int .u8 97, .int .u8 98, .int .u8 99] 5 (3, 4))).heap.size from (Array.getElem?_eq_some_iff.1 MA.out).1)
      clear M3 B3
      go_wp2_with fail
      refine (HQ1.out).mono ?_
      rintro e w4 ⟨v4, rfl, o4, b4⟩
      have B4 := BA.out.trans (b4.mono BA.out.size)
      have M4 := Lib.hid (mb_keeps MA.out (keepsO_below b4))
      have R4 := Lib.hid (rb_below RA.out b4)
      have R41 := Lib.hid (rb_below RA1.out b4)
      have O4 := Lib.hid o4
      have hcv : (convert 29 9 (.slice (some ⟨w3.heap.size, 0, none⟩) 3 3)).run Tryd.prog w4 = .ok (.string ⟨#[97, 98, 99]⟩) w4 := rb_string R4.out
      have hab := Lib.hid (show w.heap.size ≤ (w3.alloc (.cells #[.int .u8 97, .int .u8 98, .int .u8 99] 5 (3, 4))).heap.size from BA.out.size)
      have HQ2 := Lib.hid (putQ_c (w := w4) R41.out (by simp) (rc_below HP.out B4) HC.out)
      clear o4 b4 HQ1 MA RA RA1 BA
      go_wp2_with fail
      refine (HQ2.out).mono ?_
      rintro e w5 ⟨v5, rfl, o5, b5⟩
      have B5 := B4.trans (b5.mono B4.size)
      have M5 := Lib.hid (mb_keeps M4.out (keepsO_below b5))
      have O5 := Lib.hid o5
      have O45 := Lib.hid (own_below O4.out b5)
      have H45 := Lib.hid (fun k (hk : v4.ownBlock = some k) => own_lt O4.out hk)
      obtain ⟨x, hx⟩ : ∃ x : ByteArray, x = ⟨(ptL [97] ps).toArray⟩ := ⟨_, rfl⟩
      have HX := Lib.hid hx
      have hcv2 : (convert 29 9 v5).run Tryd.prog w5 = .ok (.string x) w5 := by rw [hx]; exact rb_string (ob_rb o5)
      clear o5 b5 HQ2 hcv B4 M4 R4 R41 O4 hx
      obtain ⟨A4, d4, rfl⟩ := rc_any (ob_rb O45.out)
      go_wp2_with fail
      obtain ⟨L, hL⟩ : ∃ L, L = (ptL [97] ps).length := ⟨_, rfl⟩
      have HL := Lib.hid hL
      have O45' : Hid (w5.ownsRow (w3.alloc (.cells #[.int .u8 97, .int .u8 98, .int .u8 99] 5 (3, 4))).heap.size 5 1 (.slice A4 L d4) L (Lib.byteCells (ptL [97] ps))) := Lib.hid (by rw [hL]; exact O45.out)
      obtain ⟨BB, hBB⟩ : ∃ BB, BB = (w3.alloc (.cells #[.int .u8 97, .int .u8 98, .int .u8 99] 5 (3, 4))).heap.size := ⟨_, rfl⟩
      rw [← hBB] at O45' hab HMB
      rw [← hL]
      have HB5 := Lib.hid B5
      clear hL O45 hBB hcv2 B5
      have hLI : (L : Int) ≤ 9223372036854775807 := by
        obtain ⟨_, _, e, h1, h2, _⟩ := own_rc O45'.out
        injection e with e1 e2 e3
        omega
      obtain ⟨w6, hw6⟩ : ∃ w6, w6 = w5 := ⟨_, rfl⟩
      have HW6 := Lib.hid hw6
      clear hw6
      go_loopw [51] (fun i wx => ∃ (k : Nat) (l : List Value), k ≤ L ∧ i = .int .i64 k ∧ Hid (wx.ownsRow BB 5 1 (.slice A4 L d4) L l) ∧ Hid (w6.grownBy wx (Value.slice A4 L d4).ownBlock)) (fun i _ => L - (intOf i).toNat)
      case atStart => exact ⟨0, _, Nat.zero_le _, rfl, O45', Lib.hid (by rw [HW6.out]; exact World.grownBy.refl _ _)⟩
      case round =>
        obtain ⟨k, l, hk, rfl, OW, GW⟩ := hrel
        by_cases hlt : k < L
        · obtain ⟨g, rfl⟩ := own_some OW.out (by omega)
          have hcl := OW.out.cellAt k (by omega)
          have hl1 : l.length = L * 1 := OW.out.1
          obtain ⟨u, hu⟩ : ∃ u, l[k]? = some u := ⟨_, List.getElem?_eq_getElem (by omega)⟩
          rw [hu] at hcl
          have hfz := OW.out.frozenAt k
          have HLT := Lib.hid hlt
          have hltI : (k : Int) < L := by omega
          have hk0 : (0 : Int) ≤ k := by omega
          clear hlt hl1 hu
          go_wp2_with fail
          go_roundw
          case rel =>
            obtain ⟨s1, s2⟩ := OW.out.stored k (.int .u8 9)
            exact ⟨k + 1, _, HLT.out, by go_num, Lib.hid s1, Lib.hid (GW.out.trans s2)⟩
          case measure => have := HLT.out; simp [intOf]; omega
        · have hge : (L : Int) ≤ k := by omega
          clear hlt
          have hrow : ∀ k, (Value.slice A4 L d4).ownBlock = some k → BB ≤ k ∧ k < w4.heap.size := fun k hk => ⟨own_base O45'.out k hk, H45.out k (by rw [← hk]; cases A4 <;> rfl)⟩
          have GW' : Hid (w5.grownBy wr (Value.slice A4 L d4).ownBlock) := Lib.hid (by have h := GW.out; rw [HW6.out] at h; exact h)
          have O7 := Lib.hid (own_kept O5.out GW'.out (fun k hk => own_low O5.out (hrow k hk).2))
          have M7 := Lib.hid (blk_kept M5.out GW'.out (fun e => by have := (hrow _ e).1; have := HMB.out; omega))
          have B7 := Lib.hid (HB5.out.grown GW'.out HB5.out.size (fun k hk => by have := (hrow k hk).1; have := hab.out; omega))
          have hcv2 : (convert 29 9 v5).run Tryd.prog wr = .ok (.string x) wr := by rw [HX.out]; exact rb_string (ob_rb O7.out)
          have I7 := Lib.hid (mthIn_below HI.out B7.out)
          obtain ⟨m0, m1, m2, m3, m4⟩ := mb_facts M7.out
          have HEN := Lib.hid (encIn I7.out)
          clear GW GW' O45' HW6 hLI OW hrow hk H45 M5 HB5 O5
          cases hv : validB ps with
          | true =>
            have hE : ptE ps = 0 := by unfold ptE; rw [if_pos hv]
            have hpl : ptL [97] ps = 97 :: (beB (propsB ps).length 4 ++ propsB ps) := by unfold ptL; rw [if_pos hv]; rfl
            rw [hpl] at O7
            obtain ⟨A5, d5, rfl⟩ := rc_any (ob_rb O7.out)
            obtain ⟨ab, rfl, hb0⟩ := rb_cell (ob_rb O7.out) 0 97 rfl
            rw [show ab.add 0 = ab by unfold Addr.add; simp] at hb0
            obtain ⟨L5, hL5⟩ : ∃ L5, L5 = (97 :: (beB (propsB ps).length 4 ++ propsB ps)).length := ⟨_, rfl⟩
            have h0 : (0 : Int) < (L5 : Int) := by rw [hL5]; simp; omega
            rw [← hL5] at hcv2
            rw [← hL5]
            clear hpl hv hL5
            go_wp2_with fail
            refine (HEN.out).mono ?_
            intro e x1 h1
            obtain ⟨c1, h1⟩ := h1
            have BX1 := Lib.hid (B7.out.trans (c1.mono B7.out.size))
            have MX1 := Lib.hid (mb_keeps M7.out (keepsO_below c1))
            clear HEN m0 m1 m2 m3 m4 O7
            cases hmb : m.bytes with
            | none =>
              rw [hmb] at h1
              dsimp only at h1
              subst h1
              have hcv : ∀ x1 : World, (convert 29 9 (.slice none 0 0)).run Tryd.prog x1 = .ok (.string (bs [])) x1 := fun x1 => rb_string (ob_rb (ob_nil x1 0))
              have HQ := Lib.hid (dec_nil_c)
              clear c1
              go_wp2_with fail
              refine (HQ.out x1).mono ?_
              rintro e x2 ⟨c2, rfl⟩
              have BX2 := BX1.out.trans (c2.mono BX1.out.size)
              have BX3 := Lib.hid (BX2.alloc BX2.size (.cells #[.int .i64 0, .int .i64 0, .slice none 0 0, .slice none 0 0, .slice none 0 0] 26))
              have MY2 := Lib.hid (mb_new x2 0 0 (.slice none 0 0) (.slice none 0 0) (.slice none 0 0))
              clear c2 BX2
              go_wp2_with fail
              refine (HQ.out _).mono ?_
              rintro e x4 ⟨c4, rfl⟩
              have BX4 := BX3.out.trans (c4.mono BX3.out.size)
              have BX5 := Lib.hid (BX4.alloc BX4.size (.cells #[.int .i64 0, .int .i64 0, .slice none 0 0, .slice none 0 0, .slice none 0 0] 26))
              have MY4 := mb_keeps (mb_keeps MY2.out (keepsO_below c4)) (keepsO_below (below_al1 x4 (.cells #[.int .i64 0, .int .i64 0, .slice none 0 0, .slice none 0 0, .slice none 0 0] 26)))
              obtain ⟨_, _, n2, _, n4⟩ := mb_facts MY4
              clear c4 MY4 BX4
              obtain ⟨x5, hx5⟩ : ∃ x5, x5 = x4.alloc (.cells #[.int .i64 0, .int .i64 0, .slice none 0 0, .slice none 0 0, .slice none 0 0] 26) := ⟨_, rfl⟩
              rw [← hx5] at n2 n4 BX5
              go_upto_region 21 with fail
              rw [← hx5]
              clear hx5
              go_wp2_with fail
              refine wp_loop_rounds 1 ?_
              rw [rounds_succ]
              go_wp2_with fail
              refine wp_loop_rounds 1 ?_
              rw [rounds_succ]
              go_wp2_with fail
              go_ret
              exact ⟨rfl, BX5.out⟩
            | some l =>
              rw [hmb] at h1
              dsimp only at h1
              obtain ⟨v6, rfl, o6⟩ := h1
              have hsm := bytes_small hmb
              have hd1 : decP (bs l) = some m := by have h := dec_enc HI.out.fit hmb []; rw [List.append_nil, if_pos rfl] at h; exact h
              have O6 := Lib.hid (ob_rb o6)
              have hcv : (convert 29 9 v6).run Tryd.prog x1 = .ok (.string (bs l)) x1 := rb_string (ob_rb o6)
              have HQ := Lib.hid (fun x1 => decode_some_c (w := x1) hd1 (by rw [bs_size]; omega))
              clear hmb hsm hd1 o6 c1
              go_wp2_with fail
              refine (HQ.out x1).mono ?_
              rintro e x2 ⟨c2, wn, wt, wp, rfl, on, ot, op, hdi⟩
              obtain ⟨Bn, dn, rfl⟩ := rc_any (own_rc on)
              obtain ⟨Bt, dt, rfl⟩ := rc_any (own_rc ot)
              obtain ⟨Bp, dp, rfl⟩ := rc_any (ownP_rpr op)
              have BX2 := BX1.out.trans (c2.mono BX1.out.size)
              have MX2 := mb_keeps MX1.out (keepsO_below c2)
              have al := below_al1 x2 (.cells #[.int .i64 m.c, .int .i64 m.i, .slice Bn m.ns.length dn, .slice Bt m.ts.length dt, .slice Bp m.ps.length dp] 26)
              have MX3 := mb_keeps MX2 (keepsO_below al)
              have MY3 := mb_new x2 m.c m.i (.slice Bn m.ns.length dn) (.slice Bt m.ts.length dt) (.slice Bp m.ps.length dp)
              have BX3 := BX2.trans (al.mono BX2.size)
              have O7 := rb_below (rb_below O6.out c2) al
              have on3 := own_below on al
              have op3 := ownP_below op al
              have hyb : x2.heap.size < (x2.alloc (.cells #[.int .i64 m.c, .int .i64 m.i, .slice Bn m.ns.length dn, .slice Bt m.ts.length dt, .slice Bp m.ps.length dp] 26)).heap.size := by show _ < (Array.push _ _).size; simp
              have HBN := Lib.hid (show ∀ k, (Value.slice Bn m.ns.length dn).ownBlock = some k → k < x2.heap.size from fun k hk => own_lt on hk)
              have HBP := Lib.hid (show ∀ k, (Value.slice Bp m.ps.length dp).ownBlock = some k → k < x2.heap.size from fun k hk => (ownP_lt op k hk).2)
              have HX1S := Lib.hid (show w.heap.size < x1.heap.size from (Array.getElem?_eq_some_iff.1 MX1.out).1)
              obtain ⟨x3, hx3⟩ : ∃ x3, x3 = x2.alloc (.cells #[.int .i64 m.c, .int .i64 m.i, .slice Bn m.ns.length dn, .slice Bt m.ts.length dt, .slice Bp m.ps.length dp] 26) := ⟨_, rfl⟩
              rw [← hx3] at MX3 MY3 BX3 O7 on3 op3 hyb
              have hcv3 : (convert 29 9 v6).run Tryd.prog x3 = .ok (.string (bs l)) x3 := rb_string O7
              have HX3 := Lib.hid hx3
              have H3 := Lib.hid (And.intro MX3 (And.intro MY3 (And.intro BX3 (And.intro on3 (And.intro op3 hyb)))))
              have HDI := Lib.hid hdi
              clear hdi on3 op3 hyb MX3 MY3 BX3 O7 al MX2 BX2 on ot op c2 hcv hx3
              go_upto_region 20 with fail
              rw [← HX3.out]
              clear HX3
              go_wp2_with fail
              refine (HQ.out x3).mono ?_
              rintro e x4 ⟨c4, zn, zt, zp, rfl, pn, pt, pp, _⟩
              obtain ⟨Cn, en, rfl⟩ := rc_any (own_rc pn)
              obtain ⟨Ct, et, rfl⟩ := rc_any (own_rc pt)
              obtain ⟨Cp, ep, rfl⟩ := rc_any (ownP_rpr pp)
              obtain ⟨MX3, MY3, BX3, on3, op3, hyb⟩ := H3.out
              have al := below_al1 x4 (.cells #[.int .i64 m.c, .int .i64 m.i, .slice Cn m.ns.length en, .slice Ct m.ts.length et, .slice Cp m.ps.length ep] 26)
              have al3 := c4.trans (al.mono c4.size)
              have MX5 := mb_keeps MX3 (keepsO_below al3)
              have MY5 := mb_keeps MY3 (keepsO_below al3)
              have MZ5 := mb_new x4 m.c m.i (.slice Cn m.ns.length en) (.slice Ct m.ts.length et) (.slice Cp m.ps.length ep)
              have BX5 := BX3.trans (al3.mono BX3.size)
              have on5 := own_below on3 al3
              have op5 := ownP_below op3 al3
              have pn5 := own_below pn al
              have pt5 := own_below pt al
              have pp5 := ownP_below pp al
              have hs34 := c4.size
              obtain ⟨x5, hx5⟩ : ∃ x5, x5 = x4.alloc (.cells #[.int .i64 m.c, .int .i64 m.i, .slice Cn m.ns.length en, .slice Ct m.ts.length et, .slice Cp m.ps.length ep] 26) := ⟨_, rfl⟩
              rw [← hx5] at MX5 MY5 MZ5 BX5 on5 op5 pn5 pt5 pp5
              have HX5 := Lib.hid hx5
              have HMX := Lib.hid MX5
              have HMY := Lib.hid MY5
              have HMZ := Lib.hid MZ5
              have HB5X := Lib.hid BX5
              have HON := Lib.hid on5
              have HOP := Lib.hid op5
              have HPN := Lib.hid (show KR x5 x3.heap.size _ _ _ m from ⟨pn5, pt5, pp5⟩)
              have HS := Lib.hid (show x2.heap.size < x3.heap.size ∧ x3.heap.size ≤ x4.heap.size from ⟨hyb, hs34⟩)
              obtain ⟨_, _, n2, _, _⟩ := mb_facts MY5
              have hnlI : (m.ns.length : Int) ≤ 140737488351232 := by have := HI.out.nl; omega
              have hplI : (m.ps.length : Int) ≤ 9223372036854775807 := by
                obtain ⟨_, _, e, h1, h2, _⟩ := ownP_rpr op5
                injection e with e1 e2 e3
                omega
              clear MX3 MY3 BX3 on3 op3 hyb al al3 MX5 MY5 MZ5 BX5 on5 op5 pn5 pt5 pp5 hs34 pn pt pp c4 hx5 H3
              go_upto_region 21 with fail
              rw [← HX5.out]
              clear HX5 hcv3
              go_wp2_with fail
              obtain ⟨y5, hy5⟩ : ∃ y5, y5 = x5 := ⟨_, rfl⟩
              have HY5 := Lib.hid hy5
              clear hy5
              go_loopw [92] (fun i wx => ∃ (k : Nat) (l : List Value), k ≤ m.ns.length ∧ i = .int .i64 k ∧ Hid (wx.ownsRow x1.heap.size 3 1 (.slice Bn m.ns.length dn) m.ns.length l) ∧ Hid (y5.grownBy wx (Value.slice Bn m.ns.length dn).ownBlock)) (fun i _ => m.ns.length - (intOf i).toNat)
              case atStart => exact ⟨0, _, Nat.zero_le _, rfl, HON, Lib.hid (by rw [HY5.out]; exact World.grownBy.refl _ _)⟩
              case round =>
                obtain ⟨k, l5, hk, rfl, OW, GW⟩ := hrel
                have GW' : Hid (x5.grownBy wr (Value.slice Bn m.ns.length dn).ownBlock) := Lib.hid (by have h := GW.out; rw [HY5.out] at h; exact h)
                have MYr := Lib.hid (blk_kept HMY.out GW'.out (fun e => by have := HBN.out _ e; omega))
                obtain ⟨_, _, n2, _, n4⟩ := mb_facts MYr.out
                by_cases hlt : k < m.ns.length
                · obtain ⟨g, rfl⟩ := own_some OW.out (by omega)
                  have hcl := OW.out.cellAt k (by omega)
                  have hl1 : l5.length = m.ns.length * 1 := OW.out.1
                  obtain ⟨u, hu⟩ : ∃ u, l5[k]? = some u := ⟨_, List.getElem?_eq_getElem (by omega)⟩
                  rw [hu] at hcl
                  have hfz := OW.out.frozenAt k
                  have HLT := Lib.hid hlt
                  have hltI : (k : Int) < m.ns.length := by omega
                  have hk0 : (0 : Int) ≤ k := by omega
                  clear hlt hl1 hu n4 hk
                  go_wp2_with fail
                  go_roundw
                  case rel =>
                    obtain ⟨s1, s2⟩ := OW.out.stored k (.int .i64 (-9))
                    exact ⟨k + 1, _, HLT.out, by go_num, Lib.hid s1, Lib.hid (GW.out.trans s2)⟩
                  case measure => have := HLT.out; simp [intOf]; omega
                · have hge : (m.ns.length : Int) ≤ k := by omega
                  have OP6 := Lib.hid (ownP_kept HOP.out GW'.out (fun k hk => HDI.out k hk))
                  have PR6 := Lib.hid (KR.kept HPN.out GW'.out (fun k hk => by have := HBN.out k hk; have := HS.out; omega))
                  have MX6 := Lib.hid (blk_kept HMX.out GW'.out (fun e => by have := own_base HON.out _ e; have := HX1S.out; omega))
                  have MZ6 := Lib.hid (blk_kept HMZ.out GW'.out (fun e => by have := HBN.out _ e; have := HS.out; omega))
                  have BX6 := Lib.hid (HB5X.out.grown GW'.out HB5X.out.size (fun k hk => by have := own_base HON.out k hk; have := HX1S.out; omega))
                  obtain ⟨y6, hy6⟩ : ∃ y6, y6 = wr := ⟨_, rfl⟩
                  have HY6 := Lib.hid hy6
                  have HC6 : Hid (y6.heap.size = wr.heap.size ∧ OwnP y6 x1.heap.size (.slice Bp m.ps.length dp) m.ps ∧ KR y6 x3.heap.size (.slice Cn m.ns.length en) (.slice Ct m.ts.length et) (.slice Cp m.ps.length ep) m ∧ MB y6 w.heap.size m.c m.i (.slice An m.ns.length cn) (.slice At m.ts.length ct) (.slice Aq m.ps.length cq) ∧ MB y6 x4.heap.size m.c m.i (.slice Cn m.ns.length en) (.slice Ct m.ts.length et) (.slice Cp m.ps.length ep) ∧ Below w.heap.size w y6 ∧ MB y6 x2.heap.size m.c m.i (.slice Bn m.ns.length dn) (.slice Bt m.ts.length dt) (.slice Bp m.ps.length dp)) := Lib.hid (by rw [hy6]; exact ⟨rfl, OP6.out, PR6.out, MX6.out, MZ6.out, BX6.out, MYr.out⟩)
                  have qs := store_float (P := Tryd.prog)
                  clear hk GW GW' OW n2 HMX HMY HMZ HB5X HON HOP HPN OP6 PR6 MX6 MZ6 BX6 MYr HY5 hlt hnlI hy6
                  go_wp2_with fail
                  go_loopw [103] (fun i wx => ∃ k : Nat, k ≤ m.ps.length ∧ i = .int .i64 k ∧ Hid (HasC wx Bp m.ps.length) ∧ Hid (y6.grownBy wx (Value.slice Bp m.ps.length dp).ownBlock)) (fun i _ => m.ps.length - (intOf i).toNat)
                  case atStart => exact ⟨0, Nat.zero_le _, rfl, Lib.hid (by have h := hasC_of HC6.out.2.1; rw [HY6.out] at h; exact h), Lib.hid (by rw [HY6.out]; exact World.grownBy.refl _ _)⟩
                  case round =>
                    obtain ⟨k, hk, rfl, OW, GW⟩ := hrel
                    have MYr := Lib.hid (blk_kept HC6.out.2.2.2.2.2.2 GW.out (fun e => by have := HBP.out _ e; omega))
                    obtain ⟨_, _, _, _, n4⟩ := mb_facts MYr.out
                    by_cases hlt : k < m.ps.length
                    · obtain ⟨g, rfl⟩ := ownP_some HC6.out.2.1 (by omega)
                      obtain ⟨⟨u0, k0⟩, z0⟩ := hasC_at OW.out (show k * 5 < m.ps.length * 5 by omega)
                      obtain ⟨⟨u1, k1⟩, z1⟩ := hasC_at OW.out (show k * 5 + 1 < m.ps.length * 5 by omega)
                      obtain ⟨⟨u2, k2⟩, z2⟩ := hasC_at OW.out (show k * 5 + 2 < m.ps.length * 5 by omega)
                      obtain ⟨⟨u3, k3⟩, z3⟩ := hasC_at OW.out (show k * 5 + 3 < m.ps.length * 5 by omega)
                      obtain ⟨⟨u4, k4⟩, z4⟩ := hasC_at OW.out (show k * 5 + 4 < m.ps.length * 5 by omega)
                      have HLT := Lib.hid hlt
                      have hltI : (k : Int) < m.ps.length := by omega
                      have hk0 : (0 : Int) ≤ k := by omega
                      clear hlt hk
                      go_wp2_with fail
                      go_roundw
                      case rel => exact ⟨k + 1, HLT.out, by go_num, Lib.hid (hasC_set (hasC_set (hasC_set (hasC_set (hasC_set OW.out _ _) _ _) _ _) _ _) _ _), Lib.hid (grownBy_trans (grownBy_trans (grownBy_trans (grownBy_trans (grownBy_trans GW.out (grownBy_set _ g _ _)) (grownBy_set _ g _ _)) (grownBy_set _ g _ _)) (grownBy_set _ g _ _)) (grownBy_set _ g _ _))⟩
                      case measure => have := HLT.out; simp [intOf]; omega
                    · have hge2 : (m.ps.length : Int) ≤ k := by omega
                      obtain ⟨_, OP6, PR6, MX6, MZ6, BX6, _⟩ := HC6.out
                      have PR7 := KR.kept PR6 GW.out (fun k hk => by have := HBP.out k hk; have := HS.out; omega)
                      have MX7 := blk_kept MX6 GW.out (fun e => by have := (ownP_lt OP6 _ e).1; have := HX1S.out; omega)
                      have MZ7 := blk_kept MZ6 GW.out (fun e => by have := HBP.out _ e; have := HS.out; omega)
                      have BX7 := Lib.hid (BX6.grown GW.out BX6.size (fun k hk => by have := (ownP_lt OP6 k hk).1; have := HX1S.out; omega))
                      have IT := mthIn_below HI.out BX7.out
                      have JT : MthIn wr m (.slice Cn m.ns.length en) (.slice Ct m.ts.length et) (.slice Cp m.ps.length ep) := ⟨oi_ri PR7.n, os_rs PR7.t, ownP_rpr PR7.p, HI.out.fit, HI.out.nl, HI.out.tl, HI.out.tz, HI.out.pz⟩
                      have HSA := Lib.hid (sameIn JT IT)
                      obtain ⟨m0, m1, m2, m3, m4⟩ := mb_facts MX7
                      obtain ⟨q0, q1, q2, q3, q4⟩ := mb_facts MZ7
                      clear OP6 PR6 MX6 MZ6 BX6 PR7 MX7 MZ7 IT JT hlt hk n4 MYr GW OW
                      go_wp2_with fail
                      refine (HSA.out).mono ?_
                      rintro e x9 ⟨bb, rfl, hbb, c9⟩
                      obtain rfl : bb = true := by first | exact hbb.2 trivial | exact hbb.2 rfl | exact hbb
                      go_wp2_with fail
                      go_ret
                      exact ⟨rfl, BX7.out.trans (c9.mono BX7.out.size)⟩
          | false =>
            have hE : ptE ps = 36 := by unfold ptE; rw [hv]; rfl
            clear hv
            go_wp2_with fail
            refine (HEN.out).mono ?_
            intro e x1 h1
            obtain ⟨c1, h1⟩ := h1
            have BX1 := Lib.hid (B7.out.trans (c1.mono B7.out.size))
            have MX1 := Lib.hid (mb_keeps M7.out (keepsO_below c1))
            clear HEN m0 m1 m2 m3 m4 O7
            cases hmb : m.bytes with
            | none =>
              rw [hmb] at h1
              dsimp only at h1
              subst h1
              have hcv : ∀ x1 : World, (convert 29 9 (.slice none 0 0)).run Tryd.prog x1 = .ok (.string (bs [])) x1 := fun x1 => rb_string (ob_rb (ob_nil x1 0))
              have HQ := Lib.hid (dec_nil_c)
              clear c1
              go_wp2_with fail
              refine (HQ.out x1).mono ?_
              rintro e x2 ⟨c2, rfl⟩
              have BX2 := BX1.out.trans (c2.mono BX1.out.size)
              have BX3 := Lib.hid (BX2.alloc BX2.size (.cells #[.int .i64 0, .int .i64 0, .slice none 0 0, .slice none 0 0, .slice none 0 0] 26))
              have MY2 := Lib.hid (mb_new x2 0 0 (.slice none 0 0) (.slice none 0 0) (.slice none 0 0))
              clear c2 BX2
              go_wp2_with fail
              refine (HQ.out _).mono ?_
              rintro e x4 ⟨c4, rfl⟩
              have BX4 := BX3.out.trans (c4.mono BX3.out.size)
              have BX5 := Lib.hid (BX4.alloc BX4.size (.cells #[.int .i64 0, .int .i64 0, .slice none 0 0, .slice none 0 0, .slice none 0 0] 26))
              have MY4 := mb_keeps (mb_keeps MY2.out (keepsO_below c4)) (keepsO_below (below_al1 x4 (.cells #[.int .i64 0, .int .i64 0, .slice none 0 0, .slice none 0 0, .slice none 0 0] 26)))
              obtain ⟨_, _, n2, _, n4⟩ := mb_facts MY4
              clear c4 MY4 BX4
              obtain ⟨x5, hx5⟩ : ∃ x5, x5 = x4.alloc (.cells #[.int .i64 0, .int .i64 0, .slice none 0 0, .slice none 0 0, .slice none 0 0] 26) := ⟨_, rfl⟩
              rw [← hx5] at n2 n4 BX5
              go_upto_region 21 with fail
              rw [← hx5]
              clear hx5
              go_wp2_with fail
              refine wp_loop_rounds 1 ?_
              rw [rounds_succ]
              go_wp2_with fail
              refine wp_loop_rounds 1 ?_
              rw [rounds_succ]
              go_wp2_with fail
              go_ret
              exact ⟨rfl, BX5.out⟩
            | some l =>
              rw [hmb] at h1
              dsimp only at h1
              obtain ⟨v6, rfl, o6⟩ := h1
              have hsm := bytes_small hmb
              have hd1 : decP (bs l) = some m := by have h := dec_enc HI.out.fit hmb []; rw [List.append_nil, if_pos rfl] at h; exact h
              have O6 := Lib.hid (ob_rb o6)
              have hcv : (convert 29 9 v6).run Tryd.prog x1 = .ok (.string (bs l)) x1 := rb_string (ob_rb o6)
              have HQ := Lib.hid (fun x1 => decode_some_c (w := x1) hd1 (by rw [bs_size]; omega))
              clear hmb hsm hd1 o6 c1
              go_wp2_with fail
              refine (HQ.out x1).mono ?_
              rintro e x2 ⟨c2, wn, wt, wp, rfl, on, ot, op, hdi⟩
              obtain ⟨Bn, dn, rfl⟩ := rc_any (own_rc on)
              obtain ⟨Bt, dt, rfl⟩ := rc_any (own_rc ot)
              obtain ⟨Bp, dp, rfl⟩ := rc_any (ownP_rpr op)
              have BX2 := BX1.out.trans (c2.mono BX1.out.size)
              have MX2 := mb_keeps MX1.out (keepsO_below c2)
              have al := below_al1 x2 (.cells #[.int .i64 m.c, .int .i64 m.i, .slice Bn m.ns.length dn, .slice Bt m.ts.length dt, .slice Bp m.ps.length dp] 26)
              have MX3 := mb_keeps MX2 (keepsO_below al)
              have MY3 := mb_new x2 m.c m.i (.slice Bn m.ns.length dn) (.slice Bt m.ts.length dt) (.slice Bp m.ps.length dp)
              have BX3 := BX2.trans (al.mono BX2.size)
              have O7 := rb_below (rb_below O6.out c2) al
              have on3 := own_below on al
              have op3 := ownP_below op al
              have hyb : x2.heap.size < (x2.alloc (.cells #[.int .i64 m.c, .int .i64 m.i, .slice Bn m.ns.length dn, .slice Bt m.ts.length dt, .slice Bp m.ps.length dp] 26)).heap.size := by show _ < (Array.push _ _).size; simp
              have HBN := Lib.hid (show ∀ k, (Value.slice Bn m.ns.length dn).ownBlock = some k → k < x2.heap.size from fun k hk => own_lt on hk)
              have HBP := Lib.hid (show ∀ k, (Value.slice Bp m.ps.length dp).ownBlock = some k → k < x2.heap.size from fun k hk => (ownP_lt op k hk).2)
              have HX1S := Lib.hid (show w.heap.size < x1.heap.size from (Array.getElem?_eq_some_iff.1 MX1.out).1)
              obtain ⟨x3, hx3⟩ : ∃ x3, x3 = x2.alloc (.cells #[.int .i64 m.c, .int .i64 m.i, .slice Bn m.ns.length dn, .slice Bt m.ts.length dt, .slice Bp m.ps.length dp] 26) := ⟨_, rfl⟩
              rw [← hx3] at MX3 MY3 BX3 O7 on3 op3 hyb
              have hcv3 : (convert 29 9 v6).run Tryd.prog x3 = .ok (.string (bs l)) x3 := rb_string O7
              have HX3 := Lib.hid hx3
              have H3 := Lib.hid (And.intro MX3 (And.intro MY3 (And.intro BX3 (And.intro on3 (And.intro op3 hyb)))))
              have HDI := Lib.hid hdi
              clear hdi on3 op3 hyb MX3 MY3 BX3 O7 al MX2 BX2 on ot op c2 hcv hx3
              go_upto_region 20 with fail
              rw [← HX3.out]
              clear HX3
              go_wp2_with fail
              refine (HQ.out x3).mono ?_
              rintro e x4 ⟨c4, zn, zt, zp, rfl, pn, pt, pp, _⟩
              obtain ⟨Cn, en, rfl⟩ := rc_any (own_rc pn)
              obtain ⟨Ct, et, rfl⟩ := rc_any (own_rc pt)
              obtain ⟨Cp, ep, rfl⟩ := rc_any (ownP_rpr pp)
              obtain ⟨MX3, MY3, BX3, on3, op3, hyb⟩ := H3.out
              have al := below_al1 x4 (.cells #[.int .i64 m.c, .int .i64 m.i, .slice Cn m.ns.length en, .slice Ct m.ts.length et, .slice Cp m.ps.length ep] 26)
              have al3 := c4.trans (al.mono c4.size)
              have MX5 := mb_keeps MX3 (keepsO_below al3)
              have MY5 := mb_keeps MY3 (keepsO_below al3)
              have MZ5 := mb_new x4 m.c m.i (.slice Cn m.ns.length en) (.slice Ct m.ts.length et) (.slice Cp m.ps.length ep)
              have BX5 := BX3.trans (al3.mono BX3.size)
              have on5 := own_below on3 al3
              have op5 := ownP_below op3 al3
              have pn5 := own_below pn al
              have pt5 := own_below pt al
              have pp5 := ownP_below pp al
              have hs34 := c4.size
              obtain ⟨x5, hx5⟩ : ∃ x5, x5 = x4.alloc (.cells #[.int .i64 m.c, .int .i64 m.i, .slice Cn m.ns.length en, .slice Ct m.ts.length et, .slice Cp m.ps.length ep] 26) := ⟨_, rfl⟩
              rw [← hx5] at MX5 MY5 MZ5 BX5 on5 op5 pn5 pt5 pp5
              have HX5 := Lib.hid hx5
              have HMX := Lib.hid MX5
              have HMY := Lib.hid MY5
              have HMZ := Lib.hid MZ5
              have HB5X := Lib.hid BX5
              have HON := Lib.hid on5
              have HOP := Lib.hid op5
              have HPN := Lib.hid (show KR x5 x3.heap.size _ _ _ m from ⟨pn5, pt5, pp5⟩)
              have HS := Lib.hid (show x2.heap.size < x3.heap.size ∧ x3.heap.size ≤ x4.heap.size from ⟨hyb, hs34⟩)
              obtain ⟨_, _, n2, _, _⟩ := mb_facts MY5
              have hnlI : (m.ns.length : Int) ≤ 140737488351232 := by have := HI.out.nl; omega
              have hplI : (m.ps.length : Int) ≤ 9223372036854775807 := by
                obtain ⟨_, _, e, h1, h2, _⟩ := ownP_rpr op5
                injection e with e1 e2 e3
                omega
              clear MX3 MY3 BX3 on3 op3 hyb al al3 MX5 MY5 MZ5 BX5 on5 op5 pn5 pt5 pp5 hs34 pn pt pp c4 hx5 H3
              go_upto_region 21 with fail
              rw [← HX5.out]
              clear HX5 hcv3
              go_wp2_with fail
              obtain ⟨y5, hy5⟩ : ∃ y5, y5 = x5 := ⟨_, rfl⟩
              have HY5 := Lib.hid hy5
              clear hy5
              go_loopw [92] (fun i wx => ∃ (k : Nat) (l : List Value), k ≤ m.ns.length ∧ i = .int .i64 k ∧ Hid (wx.ownsRow x1.heap.size 3 1 (.slice Bn m.ns.length dn) m.ns.length l) ∧ Hid (y5.grownBy wx (Value.slice Bn m.ns.length dn).ownBlock)) (fun i _ => m.ns.length - (intOf i).toNat)
              case atStart => exact ⟨0, _, Nat.zero_le _, rfl, HON, Lib.hid (by rw [HY5.out]; exact World.grownBy.refl _ _)⟩
              case round =>
                obtain ⟨k, l5, hk, rfl, OW, GW⟩ := hrel
                have GW' : Hid (x5.grownBy wr (Value.slice Bn m.ns.length dn).ownBlock) := Lib.hid (by have h := GW.out; rw [HY5.out] at h; exact h)
                have MYr := Lib.hid (blk_kept HMY.out GW'.out (fun e => by have := HBN.out _ e; omega))
                obtain ⟨_, _, n2, _, n4⟩ := mb_facts MYr.out
                by_cases hlt : k < m.ns.length
                · obtain ⟨g, rfl⟩ := own_some OW.out (by omega)
                  have hcl := OW.out.cellAt k (by omega)
                  have hl1 : l5.length = m.ns.length * 1 := OW.out.1
                  obtain ⟨u, hu⟩ : ∃ u, l5[k]? = some u := ⟨_, List.getElem?_eq_getElem (by omega)⟩
                  rw [hu] at hcl
                  have hfz := OW.out.frozenAt k
                  have HLT := Lib.hid hlt
                  have hltI : (k : Int) < m.ns.length := by omega
                  have hk0 : (0 : Int) ≤ k := by omega
                  clear hlt hl1 hu n4 hk
                  go_wp2_with fail
                  go_roundw
                  case rel =>
                    obtain ⟨s1, s2⟩ := OW.out.stored k (.int .i64 (-9))
                    exact ⟨k + 1, _, HLT.out, by go_num, Lib.hid s1, Lib.hid (GW.out.trans s2)⟩
                  case measure => have := HLT.out; simp [intOf]; omega
                · have hge : (m.ns.length : Int) ≤ k := by omega
                  have OP6 := Lib.hid (ownP_kept HOP.out GW'.out (fun k hk => HDI.out k hk))
                  have PR6 := Lib.hid (KR.kept HPN.out GW'.out (fun k hk => by have := HBN.out k hk; have := HS.out; omega))
                  have MX6 := Lib.hid (blk_kept HMX.out GW'.out (fun e => by have := own_base HON.out _ e; have := HX1S.out; omega))
                  have MZ6 := Lib.hid (blk_kept HMZ.out GW'.out (fun e => by have := HBN.out _ e; have := HS.out; omega))
                  have BX6 := Lib.hid (HB5X.out.grown GW'.out HB5X.out.size (fun k hk => by have := own_base HON.out k hk; have := HX1S.out; omega))
                  obtain ⟨y6, hy6⟩ : ∃ y6, y6 = wr := ⟨_, rfl⟩
                  have HY6 := Lib.hid hy6
                  have HC6 : Hid (y6.heap.size = wr.heap.size ∧ OwnP y6 x1.heap.size (.slice Bp m.ps.length dp) m.ps ∧ KR y6 x3.heap.size (.slice Cn m.ns.length en) (.slice Ct m.ts.length et) (.slice Cp m.ps.length ep) m ∧ MB y6 w.heap.size m.c m.i (.slice An m.ns.length cn) (.slice At m.ts.length ct) (.slice Aq m.ps.length cq) ∧ MB y6 x4.heap.size m.c m.i (.slice Cn m.ns.length en) (.slice Ct m.ts.length et) (.slice Cp m.ps.length ep) ∧ Below w.heap.size w y6 ∧ MB y6 x2.heap.size m.c m.i (.slice Bn m.ns.length dn) (.slice Bt m.ts.length dt) (.slice Bp m.ps.length dp)) := Lib.hid (by rw [hy6]; exact ⟨rfl, OP6.out, PR6.out, MX6.out, MZ6.out, BX6.out, MYr.out⟩)
                  have qs := store_float (P := Tryd.prog)
                  clear hk GW GW' OW n2 HMX HMY HMZ HB5X HON HOP HPN OP6 PR6 MX6 MZ6 BX6 MYr HY5 hlt hnlI hy6
                  go_wp2_with fail
                  go_loopw [103] (fun i wx => ∃ k : Nat, k ≤ m.ps.length ∧ i = .int .i64 k ∧ Hid (HasC wx Bp m.ps.length) ∧ Hid (y6.grownBy wx (Value.slice Bp m.ps.length dp).ownBlock)) (fun i _ => m.ps.length - (intOf i).toNat)
                  case atStart => exact ⟨0, Nat.zero_le _, rfl, Lib.hid (by have h := hasC_of HC6.out.2.1; rw [HY6.out] at h; exact h), Lib.hid (by rw [HY6.out]; exact World.grownBy.refl _ _)⟩
                  case round =>
                    obtain ⟨k, hk, rfl, OW, GW⟩ := hrel
                    have MYr := Lib.hid (blk_kept HC6.out.2.2.2.2.2.2 GW.out (fun e => by have := HBP.out _ e; omega))
                    obtain ⟨_, _, _, _, n4⟩ := mb_facts MYr.out
                    by_cases hlt : k < m.ps.length
                    · obtain ⟨g, rfl⟩ := ownP_some HC6.out.2.1 (by omega)
                      obtain ⟨⟨u0, k0⟩, z0⟩ := hasC_at OW.out (show k * 5 < m.ps.length * 5 by omega)
                      obtain ⟨⟨u1, k1⟩, z1⟩ := hasC_at OW.out (show k * 5 + 1 < m.ps.length * 5 by omega)
                      obtain ⟨⟨u2, k2⟩, z2⟩ := hasC_at OW.out (show k * 5 + 2 < m.ps.length * 5 by omega)
                      obtain ⟨⟨u3, k3⟩, z3⟩ := hasC_at OW.out (show k * 5 + 3 < m.ps.length * 5 by omega)
                      obtain ⟨⟨u4, k4⟩, z4⟩ := hasC_at OW.out (show k * 5 + 4 < m.ps.length * 5 by omega)
                      have HLT := Lib.hid hlt
                      have hltI : (k : Int) < m.ps.length := by omega
                      have hk0 : (0 : Int) ≤ k := by omega
                      clear hlt hk
                      go_wp2_with fail
                      go_roundw
                      case rel => exact ⟨k + 1, HLT.out, by go_num, Lib.hid (hasC_set (hasC_set (hasC_set (hasC_set (hasC_set OW.out _ _) _ _) _ _) _ _) _ _), Lib.hid (grownBy_trans (grownBy_trans (grownBy_trans (grownBy_trans (grownBy_trans GW.out (grownBy_set _ g _ _)) (grownBy_set _ g _ _)) (grownBy_set _ g _ _)) (grownBy_set _ g _ _)) (grownBy_set _ g _ _))⟩
                      case measure => have := HLT.out; simp [intOf]; omega
                    · have hge2 : (m.ps.length : Int) ≤ k := by omega
                      obtain ⟨_, OP6, PR6, MX6, MZ6, BX6, _⟩ := HC6.out
                      have PR7 := KR.kept PR6 GW.out (fun k hk => by have := HBP.out k hk; have := HS.out; omega)
                      have MX7 := blk_kept MX6 GW.out (fun e => by have := (ownP_lt OP6 _ e).1; have := HX1S.out; omega)
                      have MZ7 := blk_kept MZ6 GW.out (fun e => by have := HBP.out _ e; have := HS.out; omega)
                      have BX7 := Lib.hid (BX6.grown GW.out BX6.size (fun k hk => by have := (ownP_lt OP6 k hk).1; have := HX1S.out; omega))
                      have IT := mthIn_below HI.out BX7.out
                      have JT : MthIn wr m (.slice Cn m.ns.length en) (.slice Ct m.ts.length et) (.slice Cp m.ps.length ep) := ⟨oi_ri PR7.n, os_rs PR7.t, ownP_rpr PR7.p, HI.out.fit, HI.out.nl, HI.out.tl, HI.out.tz, HI.out.pz⟩
                      have HSA := Lib.hid (sameIn JT IT)
                      obtain ⟨m0, m1, m2, m3, m4⟩ := mb_facts MX7
                      obtain ⟨q0, q1, q2, q3, q4⟩ := mb_facts MZ7
                      clear OP6 PR6 MX6 MZ6 BX6 PR7 MX7 MZ7 IT JT hlt hk n4 MYr GW OW
                      go_wp2_with fail
                      refine (HSA.out).mono ?_
                      rintro e x9 ⟨bb, rfl, hbb, c9⟩
                      obtain rfl : bb = true := by first | exact hbb.2 trivial | exact hbb.2 rfl | exact hbb
                      go_wp2_with fail
                      go_ret
                      exact ⟨rfl, BX7.out.trans (c9.mono BX7.out.size)⟩
end Go.Proofs.YteigbejidfkhpaaDoor

/- Properties and methods that came in. -/
namespace Go.Proofs.YteigbejidfkhpaaDoor
open Go Go.RowKit
open Go.ChangeShapes Go.WideShapes Go.Deep
set_option linter.unusedSimpArgs false
set_option linter.unusedVariables false

section
variable {H : Type} {enc : TypeId × Value → H} {W : World}
def mthCells (x : Int × Int × Value × Value × Value × Unit) : List Value := [.int .i64 x.1, .int .i64 x.2.1, x.2.2.1, x.2.2.2.1, x.2.2.2.2.1]
set_option maxRecDepth 100000 in
theorem open_meth {v : Value} {base : Nat} {d : DataW H} {p : List MemPlace} {ts : List TypeId} {ds : List (DataW H)} (hv : Value.okWide Tryd.prog W .any base 26 v) (h : DataW.Trod enc Tryd.prog W 0 (fun _ => true) true 26 v d p)
    (hsz : (DataW.weightsEach Tryd.prog ts ds).all (· ≤ reachBytes) = true) (j : Nat) (ht : ts[j]? = some 26) (hd : ds[j]? = some d) :
    ∃ (m : Mth) (vn vt vp : Value), v = .agg #[.int .i64 m.c, .int .i64 m.i, vn, vt, vp] ∧ MthIn W m vn vt vp := by
  have hO : Opn enc Tryd.prog W 26 5 _ _ := opn_struct Tryd.underlying26 (by kernel_rfl) (opnF_cons (opn_i64 Tryd.underlying3 (by kernel_rfl)) rfl (opnF_cons (opn_i64 Tryd.underlying3 (by kernel_rfl)) rfl
    (opnF_cons (opn_slice (by omega) Tryd.underlying22 (by kernel_rfl) (opn_i64 Tryd.underlying3 (by kernel_rfl))) rfl
    (opnF_cons (opn_slice (by omega) Tryd.underlying23 (by kernel_rfl) (opn_string Tryd.underlying9 (by kernel_rfl))) rfl
    (opnF_cons (opn_slice (by omega) Tryd.underlying24 (by kernel_rfl) opn_prop) rfl (opnF_nil _))))))
  obtain ⟨x, rfl, g1, g2, ⟨ns, r3, g3, l3⟩, ⟨tx, r4, g4, l4⟩, ⟨ps, r5, g5, l5⟩, _⟩ := open_agg hO Tryd.underlying26 hv h hsz j ht hd
  obtain ⟨c, i, vn, vt, vp, u⟩ := x
  dsimp only at r3 r4 r5
  rw [flat_one] at r3 r4
  have b3 : Tryd.prog.bytesOf 3 = 8 := by kernel_rfl
  have b4 : Tryd.prog.bytesOf 9 = 16 := by kernel_rfl
  rw [b3] at l3
  rw [b4] at l4
  exact ⟨⟨c, i, ns, tx, ps⟩, vn, vt, vp, rfl, r3, r4, r5, ⟨fun n hn => (g3 n hn).2, fun p hp => ⟨(g5 p hp).2.2.1, (g5 p hp).2.2.2.1⟩⟩, by show ns.length ≤ _; omega, by show tx.length ≤ _; omega, g4, fun p hp => ⟨(g5 p hp).1, (g5 p hp).2.1⟩⟩
end
end Go.Proofs.YteigbejidfkhpaaDoor
