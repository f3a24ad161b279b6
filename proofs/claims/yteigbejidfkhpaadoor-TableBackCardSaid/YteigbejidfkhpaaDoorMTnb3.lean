/- Texts of this claim, joined: TnA, OpenM. -/
import Derived.Test.YteigbejidfkhpaaDoorMTnb2
import Derived.Deep.DeepCutAuto
import Derived.Deep.CutRange
import Derived.Lib.SlBytesConst
/- TableBack: the statement's walk. -/
namespace Go.Proofs.YteigbejidfkhpaaDoor
open Go Go.RowKit
set_option linter.unusedSimpArgs false
set_option linter.unusedVariables false

theorem came_fit {ps : List Prp} (h : ∀ p ∈ ps, p.came) : ∀ p ∈ ps, p.r < 2 ^ 64 ∧ -9223372036854775808 ≤ p.n ∧ p.n ≤ 9223372036854775807 := fun p hp => ⟨(h p hp).2.2.1, (h p hp).2.2.2.1.1, (h p hp).2.2.2.1.2⟩
theorem app_bs (l : List UInt8) (s : ByteArray) : bs l ++ s = bs (l ++ s.data.toList) := by
  apply ba_ext
  rw [ByteArray.data_append, Array.toList_append, bs_list, bs_list]
theorem oi_ri {w : World} {B : Nat} {v : Value} {ns : List Int} (h : w.ownsRow B 3 1 v ns.length (ns.map (Value.int .i64))) : RI w v ns := own_rc h
theorem os_rs {w : World} {B : Nat} {v : Value} {ts : List ByteArray} (h : w.ownsRow B 9 1 v ts.length (ts.map Value.string)) : RS w v ts := own_rc h

set_option maxRecDepth 1000000 in
set_option maxHeartbeats 4000000 in
theorem tableBack_c {w : World} (m : Mth) {vl vn vt vp : Value} {ps : List Prp} (more : ByteArray) (hp : RPr w vl ps) (hc : ∀ p ∈ ps, p.came) (hm : MthIn w m vn vt vp) :
    Calls Tryd.prog 8 #[vl, .agg #[.int .i64 m.c, .int .i64 m.i, vn, vt, vp], .string more] w fun e w' => e = .returned (.bool true) ∧ Below w.heap.size w w' := by
  have bW := Lib.hid ((Below.refl w.heap.size w).alloc (Nat.le_refl _) (.cells #[.int .i64 m.c, .int .i64 m.i, vn, vt, vp] 26))
  have HM0 := Lib.hid (mb_new w m.c m.i vn vt vp)
  have HP := Lib.hid hp
  have HC := Lib.hid hc
  have HI := Lib.hid hm
  obtain ⟨Ap, cp, rfl⟩ := rc_any hp
  obtain ⟨An, cn, rfl⟩ := rc_any hm.rn
  obtain ⟨At, ct, rfl⟩ := rc_any hm.rt
  obtain ⟨Aq, cq, rfl⟩ := rc_any hm.rp
  clear hp hc hm
  go_enter Tryd.func8, Tryd.ntmps8
  go_wp2_with fail
  refine wakes_c.mono ?_
  rintro e w1 ⟨rfl, b1⟩
  have B1 := bW.out.trans (b1.mono bW.out.size)
  have M1 := mb_keeps HM0.out (keepsO_below b1)
  have HLG := Lib.hid (long_c (rc_below HP.out B1) (fun p hp => ⟨(HC.out p hp).1, (HC.out p hp).2.1⟩))
  go_wp2_with fail
  refine (HLG.out).mono ?_
  rintro e w2 ⟨lg, rfl, _, b2⟩
  have B2 := B1.trans (b2.mono B1.size)
  have M2 := Lib.hid (mb_keeps M1 (keepsO_below b2))
  have I2 := Lib.hid (mthIn_below HI.out B2)
  obtain ⟨m0, m1, m2, m3, m4⟩ := mb_facts M2.out
  clear b1 b2 HLG B1 M1 HM0
  cases lg with
  | true =>
    go_wp2_with fail
    go_ret
    exact ⟨rfl, B2⟩
  | false =>
    have HHV := Lib.hid (heavyIn I2.out)
    go_wp2_with fail
    refine (HHV.out).mono ?_
    rintro e w3 ⟨hv, rfl, _, b3⟩
    have B3 := B2.trans (b3.mono B2.size)
    have M3 := Lib.hid (mb_keeps M2.out (keepsO_below b3))
    clear b3 HHV M2 I2 B2 m0 m1 m2 m3 m4
    cases hv with
    | true =>
      go_wp2_with fail
      go_ret
      exact ⟨rfl, B3⟩
    | false =>
      by_cases hmo : 4096 < more.size
      · have hmI : (4096 : Int) < more.size := by omega
        clear hmo
        go_wp2_with fail
        go_ret
        exact ⟨rfl, B3⟩
      · have hmI : ¬ (4096 : Int) < more.size := by omega
        have HMO := Lib.hid (show more.size ≤ 4096 by omega)
        clear hmo
        go_upto_region 5 with fail
        clear hmI
        have kc := fun (w : World) (C : Array Value) (n c : Nat) => Lib.run_convert_bytes_const (P := Tryd.prog) w 29 5 C n c Tryd.underlying29 Tryd.underlying5
        have BA := Lib.hid (B3.alloc B3.size (.cells #[.int .u8 120] 5 (1, 2)))
        have RA := Lib.hid (show RB (w3.alloc (.cells #[.int .u8 120] 5 (1, 2))) (.slice (some ⟨w3.heap.size, 0, none⟩) 1 1) [120] from rc_new w3 5 1 1 (Lib.byteCells [120]) rfl (by omega))
        have MA := Lib.hid (mb_keeps M3.out (keepsO_below (below_al1 w3 (.cells #[.int .u8 120] 5 (1, 2)))))
        have PA := Lib.hid (rc_below HP.out BA.out)
        have HVL := Lib.hid (fun W (b : Below w.heap.size w W) => valid_c (rc_below HP.out b) (fun p hp => (HC.out p hp).1))
        cases hv : validB ps with
        | false =>
          have HPT := Lib.hid (putBad_c (v := .slice (some ⟨w3.heap.size, 0, none⟩) 1 1) PA.out (fun p hp => (HC.out p hp).1) hv)
          have HVF := Lib.hid hv
          clear hv
          go_wp2_with fail
          refine (HPT.out).mono ?_
          rintro e w4 ⟨rfl, b4⟩
          have B4 := BA.out.trans (b4.mono BA.out.size)
          have hV4 := HVL.out w4 B4
          rw [HVF.out] at hV4
          have HV4 := Lib.hid hV4
          have M4 := Lib.hid (mb_keeps MA.out (keepsO_below b4))
          clear b4 hV4 HPT
          go_wp2_with fail
          refine (HV4.out).mono ?_
          rintro e w5 ⟨rfl, b5⟩
          have B5 := Lib.hid (B4.trans (b5.mono B4.size))
          have M5 := Lib.hid (mb_keeps M4.out (keepsO_below b5))
          clear b5
          have IT := Lib.hid (mthIn_below HI.out B5.out)
          obtain ⟨m0, m1, m2, m3, m4⟩ := mb_facts M5.out
          have HEN := Lib.hid (encIn IT.out)
          clear HVL
          go_wp2_with fail
          refine (HEN.out).mono ?_
          intro e x1 h1
          obtain ⟨c1, h1⟩ := h1
          have BX1 := Lib.hid (B5.out.trans (c1.mono B5.out.size))
          have MX1 := Lib.hid (mb_keeps M5.out (keepsO_below c1))
          clear c1 HEN m0 m1 m2 m3 m4
          cases hmb : m.bytes with
          | none =>
            rw [hmb] at h1
            dsimp only at h1
            subst h1
            go_wp2_with fail
            go_ret
            exact ⟨rfl, BX1.out⟩
          | some l =>
            rw [hmb] at h1
            dsimp only at h1
            obtain ⟨v6, rfl, o6⟩ := h1
            have hsm := bytes_small hmb
            have hd1 : decP (bs l) = some m := by have h := dec_enc HI.out.fit hmb []; rw [List.append_nil, if_pos rfl] at h; exact h
            have hd2 : decP (bs (l ++ [120])) = none := by have h := dec_enc HI.out.fit hmb [120]; rw [if_neg (by simp)] at h; exact h
            have O6 := Lib.hid (ob_rb o6)
            have hcv : (convert 29 9 v6).run Tryd.prog x1 = .ok (.string (bs l)) x1 := rb_string (ob_rb o6)
            have hq := decode_c (w := x1) (bs l) (by rw [bs_size]; omega)
            unfold DecPost at hq
            rw [hd1] at hq
            have HQ := Lib.hid hq
            have HD2 := Lib.hid hd2
            have HSM := Lib.hid hsm
            clear hmb hsm hd1 hd2 o6 hq
            go_wp2_with fail
            refine (HQ.out).mono ?_
            rintro e x2 ⟨c2, wn, wt, wp, rfl, on, ot, op, _⟩
            obtain ⟨Bn, dn, rfl⟩ := rc_any (own_rc on)
            obtain ⟨Bt, dt, rfl⟩ := rc_any (own_rc ot)
            obtain ⟨Bp, dp, rfl⟩ := rc_any (ownP_rpr op)
            have BX2 := Lib.hid (BX1.out.trans (c2.mono BX1.out.size))
            have MX2 := mb_keeps MX1.out (keepsO_below c2)
            have al := below_al1 x2 (.cells #[.int .i64 m.c, .int .i64 m.i, .slice Bn m.ns.length dn, .slice Bt m.ts.length dt, .slice Bp m.ps.length dp] 26)
            have MX3 := Lib.hid (mb_keeps MX2 (keepsO_below al))
            have MY3 := Lib.hid (mb_new x2 m.c m.i (.slice Bn m.ns.length dn) (.slice Bt m.ts.length dt) (.slice Bp m.ps.length dp))
            have JT := mthIn_below (⟨oi_ri on, os_rs ot, ownP_rpr op, HI.out.fit, HI.out.nl, HI.out.tl, HI.out.tz, HI.out.pz⟩ : MthIn x2 m _ _ _) al
            have HSA := Lib.hid (sameIn JT (mthIn_below HI.out (BX2.out.trans (al.mono BX2.out.size))))
            have BX3 := Lib.hid (BX2.out.trans (al.mono BX2.out.size))
            have O7 := Lib.hid (rb_below (rb_below O6.out c2) al)
            clear c2 on ot op MX2 al JT HQ MX1 BX1 hcv
            obtain ⟨m0, m1, m2, m3, m4⟩ := mb_facts MX3.out
            obtain ⟨n0, n1, n2, n3, n4⟩ := mb_facts MY3.out
            go_wp2_with fail
            refine (HSA.out).mono ?_
            rintro e x4 ⟨bb, rfl, hbb, c4⟩
            obtain rfl : bb = true := by first | exact hbb.2 trivial | exact hbb.2 rfl | exact hbb
            have hcv2 : (convert 29 9 v6).run Tryd.prog x4 = .ok (.string (bs l)) x4 := rb_string (rb_below O7.out c4)
            have BX4 := Lib.hid (BX3.out.trans (c4.mono BX3.out.size))
            have hsz : (bs l).size + (⟨#[120]⟩ : ByteArray).size ≤ 9223372036854775807 := by rw [bs_size]; have := HSM.out; show l.length + 1 ≤ _; omega
            have hq := decode_c (w := x4) (bs l ++ ⟨#[120]⟩) (by rw [ByteArray.size_append, bs_size]; have := HSM.out; show l.length + 1 ≤ _; omega)
            unfold DecPost at hq
            rw [show bs l ++ ⟨#[120]⟩ = bs (l ++ [120]) from app_bs l ⟨#[120]⟩, HD2.out, ← show bs l ++ ⟨#[120]⟩ = bs (l ++ [120]) from app_bs l ⟨#[120]⟩] at hq
            have HQ := Lib.hid hq
            clear c4 hq m0 m1 m2 m3 m4 n0 n1 n2 n3 n4
            go_wp2_with fail
            refine (HQ.out).mono ?_
            rintro e x5 ⟨c5, rfl⟩
            go_wp2_with fail
            go_ret
            exact ⟨rfl, BX4.out.trans (c5.mono BX4.out.size)⟩
        | true =>
          have HPT := Lib.hid (put_c (base := 0) RA.out (by simp) PA.out (fun p hp => (HC.out p hp).1) (fun p hp => (HC.out p hp).2.2.1) hv)
          have HVF := Lib.hid hv
          clear hv
          go_wp2_with fail
          refine (HPT.out).mono ?_
          rintro e w4 ⟨v4, rfl, o4, b4⟩
          have B4 := BA.out.trans (b4.mono BA.out.size)
          have hV4 := HVL.out w4 B4
          rw [HVF.out] at hV4
          have HV4 := Lib.hid hV4
          have M4 := Lib.hid (mb_keeps MA.out (keepsO_below b4))
          have O4 := Lib.hid (show OB w4 (w3.alloc (.cells #[.int .u8 120] 5 (1, 2))).heap.size v4 (120 :: putB ps) from o4)
          clear b4 hV4 HPT o4
          go_wp2_with fail
          refine (HV4.out).mono ?_
          rintro e w5 ⟨rfl, b5⟩
          have B5 := Lib.hid (B4.trans (b5.mono B4.size))
          have M5 := Lib.hid (mb_keeps M4.out (keepsO_below b5))
          have R5 := Lib.hid (rb_below (ob_rb O4.out) b5)
          clear b5 O4
          obtain ⟨A4, d4, rfl⟩ := rc_any R5.out
          obtain ⟨k, hk⟩ : ∃ k, k = (putB ps).length := ⟨_, rfl⟩
          have HKE := Lib.hid hk
          have hks : k ≤ 5000 := by rw [hk]; have := props_small HVF.out; unfold putB; rw [List.length_append, beB_len]; omega
          have hcp : k + 1 ≤ d4 := by
            obtain ⟨_, _, e, h, _⟩ := id R5.out
            injection e with e1 e2 e3
            subst e3
            rw [hk]
            exact h
          have e1 : (120 :: putB ps).length = k + 1 := by rw [hk]; rfl
          have HE1 := Lib.hid e1
          have HMID := Lib.hid (fun j h1 h2 => rb_mid A4 d4 (120 :: putB ps) (by rw [HE1.out]; exact hcp) j h1 h2)
          obtain ⟨A5, hsl, hrb, _⟩ := rb_drop A4 d4 (120 :: putB ps) (by rw [e1]; exact hcp) 1 (by omega) (by rw [e1]; omega)
          have R6 := hrb _ R5.out
          have hcv : (convert 29 9 (.slice A5 k (d4 - 1))).run Tryd.prog w5 = .ok (.string (bs (putB ps))) w5 := by
            have h := rb_string R6
            rw [e1] at h
            exact h
          rw [e1] at hsl
          have hsl' : ∀ W : World, (Instr.slice 29 (.slice A4 (k + 1) d4) (some (.int .i64 1)) none none).run Tryd.prog W = .ok (.slice A5 k (d4 - 1)) W := hsl
          have R7 := Lib.hid R5.out
          rw [e1]
          have hb0 := rb_cell R5.out 0 120 rfl
          obtain ⟨ab, rfl, hb0⟩ := hb0
          rw [show ab.add 0 = ab by unfold Addr.add; simp] at hb0
          have hsz : (bs (putB ps)).size + more.size ≤ 9223372036854775807 := by rw [bs_size, ← hk]; have := HMO.out; omega
          have hq := tTake_c (w := w5) (bs (putB ps) ++ more) (by rw [ByteArray.size_append, bs_size, ← hk]; have := HMO.out; omega)
          unfold TakePost at hq
          rw [show tableP (bs (putB ps) ++ more) = some (ps, more) by rw [app_bs, tableP_put HVF.out (came_fit HC.out), bs_of]] at hq
          dsimp only at hq
          rw [show (((bs (putB ps) ++ more).size : Nat) : Int) - more.size = (k : Int) by rw [ByteArray.size_append, bs_size, ← hk]; omega] at hq
          have HQT := Lib.hid hq
          have hwk : IntKind.i64.wrap ((k : Int) + 1 - 1) = (k : Int) := by rw [show (k : Int) + 1 - 1 = k by omega]; exact IntWalk.i64_in _ (by omega)
          have hkI : (k : Int) ≤ 5000 := by omega
          have hk1 : (0 : Int) < (k : Int) + 1 := by omega
          clear hq hk hks hcp e1 hsl R6 hrb
          go_wp2_with fail
          refine (HQT.out).mono ?_
          rintro e w6 ⟨b6, v6, rfl, o6⟩
          have B6 := Lib.hid (B5.out.trans (b6.mono B5.out.size))
          have M6 := Lib.hid (mb_keeps M5.out (keepsO_below b6))
          have R8 := Lib.hid (rb_below R7.out b6)
          have hb1 := cell_below b6 (World.block_lt_of_cell? w5 _ hb0) hb0
          have HSS := Lib.hid (sameAll_c (ownP_rpr o6) (rc_below HP.out B6.out))
          clear b6 o6 HQT hcv hb0 R7
          go_wp2_with fail
          refine (HSS.out).mono ?_
          rintro e w7 ⟨bb, rfl, hbb, b7⟩
          obtain rfl : bb = true := by first | exact hbb.2 trivial | exact hbb.2 rfl | exact hbb
          have B7 := Lib.hid (B6.out.trans (b7.mono B6.out.size))
          have M7 := Lib.hid (mb_keeps M6.out (keepsO_below b7))
          have R9 := Lib.hid (rb_below R8.out b7)
          obtain ⟨w8, hw8⟩ : ∃ w8, w8 = w7 := ⟨_, rfl⟩
          have HW8 := Lib.hid hw8
          clear b7 hsl' hb1 hwk hk1 hbb M6 B6 R8 hw8
          go_wp2_with fail
          go_loopw [12] (fun i wx => ∃ j : Nat, 1 ≤ j ∧ j ≤ 20000 ∧ i = .int .i64 j ∧ Hid (Below w8.heap.size w8 wx)) (fun i _ => k + 1 - (intOf i).toNat)
          case atStart => exact ⟨1, by omega, by omega, rfl, Lib.hid (by rw [HW8.out]; exact Below.refl _ _)⟩
          case round =>
            obtain ⟨j, hj1, hj2, rfl, b8'⟩ := hrel
            have b8 := b8'.out
            rw [HW8.out] at b8
            have B8 := Lib.hid (B7.out.trans (b8.mono B7.out.size))
            by_cases hlt : j < k + 1
            · obtain ⟨v9, hmid, hmrb⟩ := HMID.out j hj1 (by rw [HE1.out]; omega)
              rw [HE1.out] at hmid
              have RM := hmrb _ (rb_below R9.out b8)
              have hl : (List.take j (120 :: putB ps)).drop 1 = (putB ps).take (j - 1) := by
                obtain ⟨i, rfl⟩ : ∃ i, j = i + 1 := ⟨j - 1, by omega⟩
                simp
              rw [hl] at RM
              have hcv : (convert 29 9 v9).run Tryd.prog wr = .ok (.string (bs ((putB ps).take (j - 1)))) wr := rb_string RM
              have hq := tTake_c (w := wr) (bs ((putB ps).take (j - 1))) (by rw [bs_size, List.length_take]; omega)
              unfold TakePost at hq
              rw [tableP_short HVF.out (by rw [← HKE.out]; omega)] at hq
              dsimp only at hq
              have HQT := Lib.hid hq
              have HB8 := Lib.hid b8
              have hltI : (j : Int) < (k : Int) + 1 := by omega
              have hj0 : (1 : Int) ≤ j := by omega
              have hjI : (j : Int) ≤ 5001 := by omega
              have HLT := Lib.hid hlt
              have HJ := Lib.hid (show 1 ≤ j ∧ j ≤ 5001 from ⟨hj1, by omega⟩)
              obtain ⟨s9, hs9⟩ : ∃ s9, s9 = bs ((putB ps).take (j - 1)) := ⟨_, rfl⟩
              rw [← hs9] at hcv HQT
              clear hq hl RM hmrb hlt b8 b8' hj1 hj2 hs9
              go_wp2_with fail
              refine (HQT.out).mono ?_
              rintro e w9 ⟨b9, rfl⟩
              go_wp2_with fail
              go_roundw
              case rel => exact ⟨j + (1 + (k + 1) / 40), by have := HJ.out; omega, by have := HJ.out; omega, by first | rfl | (congr 1; omega), Lib.hid (by rw [HW8.out]; exact HB8.out.trans (b9.mono HB8.out.size))⟩
              case measure => have := HLT.out; simp [intOf]; omega
            · have hltI : (k : Int) + 1 ≤ j := by omega
              have M8 := Lib.hid (mb_keeps M7.out (keepsO_below b8))
              clear hlt hj1 hj2 b8 b8'
              go_upto_region 18 with fail
              have IT := Lib.hid (mthIn_below HI.out B8.out)
              obtain ⟨m0, m1, m2, m3, m4⟩ := mb_facts M8.out
              have HEN := Lib.hid (encIn IT.out)
              clear HVL
              go_wp2_with fail
              refine (HEN.out).mono ?_
              intro e x1 h1
              obtain ⟨c1, h1⟩ := h1
              have BX1 := Lib.hid (B8.out.trans (c1.mono B8.out.size))
              have MX1 := Lib.hid (mb_keeps M8.out (keepsO_below c1))
              clear c1 HEN m0 m1 m2 m3 m4
              cases hmb : m.bytes with
              | none =>
                rw [hmb] at h1
                dsimp only at h1
                subst h1
                go_wp2_with fail
                go_ret
                exact ⟨rfl, BX1.out⟩
              | some l =>
                rw [hmb] at h1
                dsimp only at h1
                obtain ⟨v6, rfl, o6⟩ := h1
                have hsm := bytes_small hmb
                have hd1 : decP (bs l) = some m := by have h := dec_enc HI.out.fit hmb []; rw [List.append_nil, if_pos rfl] at h; exact h
                have hd2 : decP (bs (l ++ [120])) = none := by have h := dec_enc HI.out.fit hmb [120]; rw [if_neg (by simp)] at h; exact h
                have O6 := Lib.hid (ob_rb o6)
                have hcv : (convert 29 9 v6).run Tryd.prog x1 = .ok (.string (bs l)) x1 := rb_string (ob_rb o6)
                have hq := decode_c (w := x1) (bs l) (by rw [bs_size]; omega)
                unfold DecPost at hq
                rw [hd1] at hq
                have HQ := Lib.hid hq
                have HD2 := Lib.hid hd2
                have HSM := Lib.hid hsm
                clear hmb hsm hd1 hd2 o6 hq
                go_wp2_with fail
                refine (HQ.out).mono ?_
                rintro e x2 ⟨c2, wn, wt, wp, rfl, on, ot, op, _⟩
                obtain ⟨Bn, dn, rfl⟩ := rc_any (own_rc on)
                obtain ⟨Bt, dt, rfl⟩ := rc_any (own_rc ot)
                obtain ⟨Bp, dp, rfl⟩ := rc_any (ownP_rpr op)
                have BX2 := Lib.hid (BX1.out.trans (c2.mono BX1.out.size))
                have MX2 := mb_keeps MX1.out (keepsO_below c2)
                have al := below_al1 x2 (.cells #[.int .i64 m.c, .int .i64 m.i, .slice Bn m.ns.length dn, .slice Bt m.ts.length dt, .slice Bp m.ps.length dp] 26)
                have MX3 := Lib.hid (mb_keeps MX2 (keepsO_below al))
                have MY3 := Lib.hid (mb_new x2 m.c m.i (.slice Bn m.ns.length dn) (.slice Bt m.ts.length dt) (.slice Bp m.ps.length dp))
                have JT := mthIn_below (⟨oi_ri on, os_rs ot, ownP_rpr op, HI.out.fit, HI.out.nl, HI.out.tl, HI.out.tz, HI.out.pz⟩ : MthIn x2 m _ _ _) al
                have HSA := Lib.hid (sameIn JT (mthIn_below HI.out (BX2.out.trans (al.mono BX2.out.size))))
                have BX3 := Lib.hid (BX2.out.trans (al.mono BX2.out.size))
                have O7 := Lib.hid (rb_below (rb_below O6.out c2) al)
                clear c2 on ot op MX2 al JT HQ MX1 BX1 hcv
                obtain ⟨m0, m1, m2, m3, m4⟩ := mb_facts MX3.out
                obtain ⟨n0, n1, n2, n3, n4⟩ := mb_facts MY3.out
                go_wp2_with fail
                refine (HSA.out).mono ?_
                rintro e x4 ⟨bb, rfl, hbb, c4⟩
                obtain rfl : bb = true := by first | exact hbb.2 trivial | exact hbb.2 rfl | exact hbb
                have hcv2 : (convert 29 9 v6).run Tryd.prog x4 = .ok (.string (bs l)) x4 := rb_string (rb_below O7.out c4)
                have BX4 := Lib.hid (BX3.out.trans (c4.mono BX3.out.size))
                have hsz : (bs l).size + (⟨#[120]⟩ : ByteArray).size ≤ 9223372036854775807 := by rw [bs_size]; have := HSM.out; show l.length + 1 ≤ _; omega
                have hq := decode_c (w := x4) (bs l ++ ⟨#[120]⟩) (by rw [ByteArray.size_append, bs_size]; have := HSM.out; show l.length + 1 ≤ _; omega)
                unfold DecPost at hq
                rw [show bs l ++ ⟨#[120]⟩ = bs (l ++ [120]) from app_bs l ⟨#[120]⟩, HD2.out, ← show bs l ++ ⟨#[120]⟩ = bs (l ++ [120]) from app_bs l ⟨#[120]⟩] at hq
                have HQ := Lib.hid hq
                clear c4 hq m0 m1 m2 m3 m4 n0 n1 n2 n3 n4
                go_wp2_with fail
                refine (HQ.out).mono ?_
                rintro e x5 ⟨c5, rfl⟩
                go_wp2_with fail
                go_ret
                exact ⟨rfl, BX4.out.trans (c5.mono BX4.out.size)⟩
end Go.Proofs.YteigbejidfkhpaaDoor

/- Properties and methods that came in. -/
namespace Go.Proofs.YteigbejidfkhpaaDoor
open Go Go.RowKit
open Go.ChangeShapes Go.WideShapes Go.Deep
set_option linter.unusedSimpArgs false
set_option linter.unusedVariables false

section
variable {H : Type} {enc : TypeId × Value → H} {W : World}
def mthCells (x : Int × Int × Value × Value × Value × Unit) : List Value := [.int .i64 x.1, .int .i64 x.2.1, x.2.2.1, x.2.2.2.1, x.2.2.2.2.1]
set_option maxRecDepth 100000 in
theorem open_meth {v : Value} {base : Nat} {d : DataW H} {p : List MemPlace} {ts : List TypeId} {ds : List (DataW H)} (hv : Value.okWide Tryd.prog W .any base 26 v) (h : DataW.Trod enc Tryd.prog W 0 (fun _ => true) true 26 v d p)
    (hsz : (DataW.weightsEach Tryd.prog ts ds).all (· ≤ reachBytes) = true) (j : Nat) (ht : ts[j]? = some 26) (hd : ds[j]? = some d) :
    ∃ (m : Mth) (vn vt vp : Value), v = .agg #[.int .i64 m.c, .int .i64 m.i, vn, vt, vp] ∧ MthIn W m vn vt vp := by
  have hO : Opn enc Tryd.prog W 26 5 _ _ := opn_struct Tryd.underlying26 (by kernel_rfl) (opnF_cons (opn_i64 Tryd.underlying3 (by kernel_rfl)) rfl (opnF_cons (opn_i64 Tryd.underlying3 (by kernel_rfl)) rfl
    (opnF_cons (opn_slice (by omega) Tryd.underlying22 (by kernel_rfl) (opn_i64 Tryd.underlying3 (by kernel_rfl))) rfl
    (opnF_cons (opn_slice (by omega) Tryd.underlying23 (by kernel_rfl) (opn_string Tryd.underlying9 (by kernel_rfl))) rfl
    (opnF_cons (opn_slice (by omega) Tryd.underlying24 (by kernel_rfl) opn_prop) rfl (opnF_nil _))))))
  obtain ⟨x, rfl, g1, g2, ⟨ns, r3, g3, l3⟩, ⟨tx, r4, g4, l4⟩, ⟨ps, r5, g5, l5⟩, _⟩ := open_agg hO Tryd.underlying26 hv h hsz j ht hd
  obtain ⟨c, i, vn, vt, vp, u⟩ := x
  dsimp only at r3 r4 r5
  rw [flat_one] at r3 r4
  have b3 : Tryd.prog.bytesOf 3 = 8 := by kernel_rfl
  have b4 : Tryd.prog.bytesOf 9 = 16 := by kernel_rfl
  rw [b3] at l3
  rw [b4] at l4
  exact ⟨⟨c, i, ns, tx, ps⟩, vn, vt, vp, rfl, r3, r4, r5, ⟨fun n hn => (g3 n hn).2, fun p hp => ⟨(g5 p hp).2.2.1, (g5 p hp).2.2.2.1⟩⟩, by show ns.length ≤ _; omega, by show tx.length ≤ _; omega, g4, fun p hp => ⟨(g5 p hp).1, (g5 p hp).2.1⟩⟩
end
end Go.Proofs.YteigbejidfkhpaaDoor
