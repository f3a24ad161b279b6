/- Layer 15: table.Encode. -/
import Derived.Test.YteigbejidfkhpaaDoorTbQ
import Derived.Deep.RegionHeld3
import Derived.BigQuiet
import Derived.Deep.DeepCutAuto
import Derived.Deep.CutRange
import Derived.Deep.QuietTactic
namespace Go.Proofs.YteigbejidfkhpaaDoor
open Go Go.RowKit Go.Sort
set_option linter.unusedSimpArgs false
set_option linter.unusedVariables false

set_option maxRecDepth 100000 in
set_option maxHeartbeats 4000000 in
theorem tEncode_c {w : World} (c i : Int) (ns : List Int) (ts : List ByteArray) (ps : List Prp) {vn vt vp : Value} (hn : RI w vn ns) (ht : RS w vt ts) (hp : RPr w vp ps)
    (hns : ∀ n ∈ ns, n ≤ 9223372036854775807) (hnl : ns.length ≤ 140737488351232) (htl : ts.length ≤ 140737488351232) (hsz : ∀ p ∈ ps, p.nm.size ≤ 140737488351232) (hr : ∀ p ∈ ps, p.r < 18446744073709551616) :
    Calls Tryd.prog 11 #[.agg #[.int .i64 c, .int .i64 i, vn, vt, vp]] w (EncM w (Mth.bytes ⟨c, i, ns, ts, ps⟩)) := by
  obtain ⟨An, cn, rfl, hn1⟩ := rc_form hn
  obtain ⟨At, ct, rfl, ht1⟩ := rc_form ht
  obtain ⟨Ap, cp, rfl, hp1⟩ := rc_form hp
  obtain ⟨total, htot⟩ : ∃ t, t = Mth.bytes ⟨c, i, ns, ts, ps⟩ := ⟨_, rfl⟩
  rw [← htot]
  have HN := Lib.hid hn
  have HTX := Lib.hid ht
  have HP := Lib.hid hp
  have HNS := Lib.hid hns
  have HSZ := Lib.hid hsz
  have HR := Lib.hid hr
  have bW := Lib.hid ((Below.refl w.heap.size w).alloc (Nat.le_refl _) (.cells #[.int .i64 c, .int .i64 i, .slice An ns.length cn, .slice At ts.length ct, .slice Ap ps.length cp] 26))
  have hF := form_c (w := w.alloc (.cells #[.int .i64 c, .int .i64 i, .slice An ns.length cn, .slice At ts.length ct, .slice Ap ps.length cp] 26)) c i
  have HNL := Lib.hid hnl
  have HTL := Lib.hid htl
  clear hn ht hp hns hsz hr hnl htl
  cases hf : formCI c i with
  | none =>
    rw [hf] at hF
    simp only [Option.getD_none, Option.isSome_none] at hF
    have HF := Lib.hid hF
    have HT := Lib.hid (show total = none by rw [htot]; unfold Mth.bytes; rw [hf]; rfl)
    clear hF htot hf
    go_enter Tryd.func11, Tryd.ntmps11
    go_wp2_with fail
    refine (HF.out).mono ?_
    rintro e w1 ⟨rfl, rfl⟩
    go_wp2_with fail
    go_ret2
    exact encM_no HT.out bW.out
  | some s =>
    rw [hf] at hF
    simp only [Option.getD_some, Option.isSome_some] at hF
    have HF := Lib.hid hF
    have hT : total = (encB s.data.toList ns ts 0 ps).map ((beB c.toNat 2 ++ beB i.toNat 2) ++ ·) := by rw [htot]; unfold Mth.bytes; rw [hf]; rfl
    have HT := Lib.hid hT
    have HSM := Lib.hid (form_small hf)
    obtain ⟨r1, r2, r3, r4⟩ := form_range hf
    obtain ⟨cn', rfl⟩ := Int.eq_ofNat_of_zero_le r1
    obtain ⟨im', rfl⟩ := Int.eq_ofNat_of_zero_le r3
    clear hF htot hf hT
    have hMB := mb_new w cn' im' (.slice An ns.length cn) (.slice At ts.length ct) (.slice Ap ps.length cp)
    have hMB' : MB (w.alloc (.cells #[.int .i64 cn', .int .i64 im', .slice An ns.length cn, .slice At ts.length ct, .slice Ap ps.length cp] 26)).drew w.heap.size cn' im' (.slice An ns.length cn) (.slice At ts.length ct) (.slice Ap ps.length cp) := hMB
    have HMB := Lib.hid hMB'
    have bD := Lib.hid bW.out.drew
    clear hMB hMB'
    go_enter Tryd.func11, Tryd.ntmps11
    go_wp2_with fail
    refine (HF.out).mono ?_
    rintro e w1 ⟨rfl, rfl⟩
    clear HF
    go_wp2_with fail
    obtain ⟨q0, q1, q2, q3, q4⟩ := mb_facts HMB.out
    go_region_held3 (fun w' => w'.cell? ⟨w.heap.size, 0, none⟩ = some (.int .i64 cn') ∧ w'.cell? ⟨w.heap.size, 1, none⟩ = some (.int .i64 im'))
      (first | exact ⟨q0, q1⟩ | go_keep)
      (first
        | (go_at_call 28; refine (bigO_c2 (base := w.heap.size) O2.out B2.size (by simp [beB_len]) im' 2 (by omega) (by omega) _ 2 (by first | rfl | exact IntWalk.u64_in _ (by omega)) rfl).mono ?_; rintro e w3 ⟨v3, rfl, o3, b3, k3⟩; have B3 := B2.trans b3; have O3 := Lib.hid o3; have HMB3 := Lib.hid (mb_keeps HMB2.out k3); obtain ⟨q0, q1, q2, q3, q4⟩ := mb_facts HMB3.out; clear o3 b3 k3)
        | (go_at_call 28; refine (bigO_c2 (base := w.heap.size) (ob_nil _ _) bD.out.size (by simp) cn' 2 (by omega) (by omega) _ 2 (by first | rfl | exact IntWalk.u64_in _ (by omega)) rfl).mono ?_; rintro e w2 ⟨v2, rfl, o2, b2, k2⟩; have B2 := bD.out.trans b2; have O2 := Lib.hid o2; have HMB2 := Lib.hid (mb_keeps HMB.out k2); obtain ⟨q0, q1, q2, q3, q4⟩ := mb_facts HMB2.out; clear o2 b2 k2))
    go_wp2_with fail
    go_quiet (fail)
    go_wp2_with fail
    rw [show IntKind.u64.wrap (cn' : Int) = cn' from IntWalk.u64_in _ (by omega), show IntKind.u64.wrap (im' : Int) = im' from IntWalk.u64_in _ (by omega)]
    have HIB := Lib.hid (show w.heap.size ≤ w3.heap.size from B3.size)
    go_loopw [6, 7, 8, 9] (fun b n t tb wr => ∃ (pos : Nat) (pre : List UInt8) (ns' : List Int) (ts' : List ByteArray) (k : Nat) (A7 A8 : Option Addr) (c7 c8 : Nat), pos ≤ s.size ∧ n = .slice A7 ns'.length c7 ∧ t = .slice A8 ts'.length c8 ∧ tb = .int .i64 k ∧ Hid (k ≤ pos) ∧ Hid (EI w wr cn' im' (.slice An ns.length cn) (.slice At ts.length ct) (.slice Ap ps.length cp) w3.heap.size s ps total pos pre ns' ts' k b n t)) (fun _ _ _ _ wr => s.size - wr.iterPos w3.heap.size)
    case atStart =>
      exact ⟨0, beB cn' 2 ++ beB im' 2, ns, ts, 0, An, At, cn, ct, Nat.zero_le _, rfl, rfl, rfl, Lib.hid (Nat.le_refl _), Lib.hid ⟨(own_drew (O3.out)).alloc _, by have h := mb_keeps HMB3.out (keepsO_alloc w3 (.stringIter s 0)); exact h, World.iter_heap (w3.drewN nq) s 0, (B3.trans (below_drewN w3 nq |>.mono B3.size)).alloc B3.size _, HN.out, HTX.out, by simp [beB_len], by rw [HT.out]; rfl, HNS.out, HNL.out, HTL.out⟩⟩
    case round =>
      obtain ⟨pos, pre, ns', ts', k, A7, A8, c7, c8, hpos, rfl, rfl, rfl, HK, HE⟩ := hrel
      clear HT O3 O2 HMB2 HMB3 HMB B3 B2 bD bW HN HTX HNS q0 q1 q2 q3 q4
      by_cases hlt : pos < s.size
      · have hnx : ∀ ty, (Instr.next (.pointer (some ⟨w3.heap.size, 0, none⟩)) true ty).run Tryd.prog wr = .ok (.tuple #[.bool true, .int .i64 pos, .int .i32 (s[pos]'hlt).toNat]) (wr.iterAt w3.heap.size s (pos + 1)) := fun ty => Lib.run_next_ascii_at wr _ s pos ty HE.out.it hlt (small_at HSM.out hlt)
        obtain ⟨W, hW⟩ : ∃ W, W = wr.iterAt w3.heap.size s (pos + 1) := ⟨_, rfl⟩
        rw [← hW] at hnx
        have O1 := Lib.hid (show OB W _ _ _ by rw [hW]; exact own_iterAt HE.out.own HE.out.it (pos + 1))
        have M1 := Lib.hid (show MB W _ _ _ _ _ _ by rw [hW]; exact mb_iterAt HE.out.mb HE.out.it (pos + 1))
        have I1 := Lib.hid (show W.heap[w3.heap.size]? = some (.stringIter s (pos + 1)) by rw [hW]; exact Lib.iterAt_heap _ _ _ _ _ HE.out.it)
        have B1 := Lib.hid (show Below w.heap.size w W by rw [hW]; exact Lib.below_iterAt HE.out.bel HIB.out s (pos + 1))
        have hdr := drop_at hlt
        have hmeas := Lib.hid (iterPos_of HE.out.it)
        obtain ⟨x, hx⟩ : ∃ x : UInt8, x = s[pos] := ⟨_, rfl⟩
        rw [← hx] at hnx hdr
        have HDR := Lib.hid hdr
        have HPOS := Lib.hid hlt
        obtain ⟨z, hz⟩ : ∃ z, z = sizeOf' (x.toNat : Int) := ⟨_, rfl⟩
        have hSZ := sizes_c (w := W) (x.toNat : Int)
        rw [← hz] at hSZ
        have HSZC := Lib.hid hSZ
        have HZ := Lib.hid hz
        clear hW hdr hx hlt hz hSZ hpos
        by_cases hz0 : 0 < z
        · have hzI : (0 : Int) < z := by omega
          have HZI := Lib.hid hzI
          clear hz0
          cases ns' with
          | nil =>
            go_wp2_with (go_at_call 29; refine (HSZC.out).mono ?_; rintro e w5 ⟨rfl, rfl⟩)
            go_ret2
            exact encM_no (enc_num_nil HE.out.tot HDR.out HZ.out HZI.out) B1.out
          | cons n ns' =>
            obtain ⟨a7, rfl, hc0⟩ := ri_head HE.out.ri
            have hc := cell_below B1.out (World.block_lt_of_cell? w _ hc0) hc0
            have hz4 : z = 1 ∨ z = 2 ∨ z = 4 ∨ z = 8 := by rw [HZ.out]; rcases size_cases (x.toNat : Int) with e | e | e | e | e <;> (have := HZ.out; omega)
            have hFT := fits_c (w := W) n z hz4
            have HZ4 := Lib.hid hz4
            have hlen : ((ns'.length : Int) + 1 == 0) = false := beq_eq_false_iff_ne.2 (by omega)
            clear hc0 hz4
            cases hft : fitsB n z with
            | false =>
              rw [hft] at hFT
              have HFT := Lib.hid hFT
              have HFF := Lib.hid hft
              clear hFT hft
              go_wp2_with (first
                | (go_at_call 29; refine (HSZC.out).mono ?_; rintro e w5 ⟨rfl, rfl⟩)
                | (go_at_call 30; refine (HFT.out).mono ?_; rintro e w6 ⟨rfl, rfl⟩))
              go_ret2
              exact encM_no (enc_num_bad HE.out.tot HDR.out HZ.out HZI.out HFF.out) B1.out
            | true =>
              rw [hft] at hFT
              have HFT := Lib.hid hFT
              obtain ⟨hn0, hn1⟩ := fits_lt hft (HE.out.big n (List.mem_cons_self ..)) HZ4.out
              have HFF := Lib.hid hft
              obtain ⟨m, rfl⟩ := Int.eq_ofNat_of_zero_le hn0
              obtain ⟨A7', hsl, hri, hlc⟩ := ri_tail w HE.out.ri
              have HRI := Lib.hid hri
              have HM := Lib.hid (show m < 18446744073709551616 by have := HE.out.big _ (List.mem_cons_self ..); omega)
              have HPL := Lib.hid (show pre.length ≤ 70368744177664 by have := HE.out.len; have := HSM.out.1; have := HPOS.out; omega)
              clear hFT hft hn0 hn1 hri
              go_wp2_with (first
                | (go_at_call 28; refine (bigO_c2 (base := w.heap.size) O1.out B1.out.size HPL.out m z HM.out (by have := HZ4.out; omega) _ _ (by first | rfl | exact IntWalk.u64_in _ (by have := HM.out; omega)) rfl).mono ?_; rintro e w7 ⟨v7, rfl, o7, b7, k7⟩; have O7 := Lib.hid o7; have M7 := Lib.hid (mb_keeps M1.out k7); have I7 := Lib.hid (iter_keeps I1.out k7); have B7 := Lib.hid (B1.out.trans b7); clear o7 b7 k7)
                | (go_at_call 30; refine (HFT.out).mono ?_; rintro e w6 ⟨rfl, rfl⟩)
                | (go_at_call 29; refine (HSZC.out).mono ?_; rintro e w5 ⟨rfl, rfl⟩))
              go_roundw
              case rel =>
                exact ⟨pos + 1, pre ++ beB m z, ns', ts', k, A7', A8, c7 - 1, c8, HPOS.out, rfl, rfl, rfl, Lib.hid (Nat.le_succ_of_le HK.out), Lib.hid ⟨O7.out, M7.out, I7.out, B7.out, HRI.out, HE.out.rs, by have := HE.out.len; have := HZ4.out; simp only [List.length_append, beB_len]; omega, enc_num_ok HE.out.tot HDR.out HZ.out HZI.out HFF.out, fun y hy => HE.out.big y (List.mem_cons_of_mem _ hy), Nat.le_trans (Nat.le_succ _) HE.out.ln, HE.out.lt⟩⟩
              case measure =>
                rw [iterPos_of I7.out, hmeas.out]
                have := HPOS.out
                omega
        · have hz1 : z = 0 := by omega
          subst hz1
          clear hz0
          by_cases hx : x = 84
          · have HX := Lib.hid hx
            have hxI : ((x.toNat : Int) == 84) = true := by rw [hx]; rfl
            clear hx
            cases hv : validB ps with
            | false =>
              have HPB := Lib.hid (putBad_c (v := u6) (rc_below HP.out B1.out) HSZ.out hv)
              have HV := Lib.hid hv
              obtain ⟨_, _, _, _, m4⟩ := mb_facts M1.out
              clear hv
              go_wp2_with (first
                | (go_at_call 29; refine (HSZC.out).mono ?_; rintro e w5 ⟨rfl, rfl⟩)
                | (go_at_call 14; refine (HPB.out).mono ?_; rintro e w6 ⟨rfl, b6⟩))
              go_ret2
              exact encM_no (enc_tab_bad HE.out.tot HDR.out HZ.out rfl HX.out HV.out) (B1.out.trans (b6.mono B1.out.size))
            | true =>
              have HPL := Lib.hid (show pre.length ≤ 17592186044416 by have := HE.out.len; have := HSM.out.1; have := HPOS.out; omega)
              have HPB := Lib.hid (put_c (base := 0) (ob_rb O1.out) HPL.out (rc_below HP.out B1.out) HSZ.out HR.out hv)
              have HV := Lib.hid hv
              have HPP := Lib.hid (show (propsB ps).length ≤ 4448 by have l1 := propsB_len ps (valid_all hv); have m1 := valid_len hv; omega)
              obtain ⟨_, _, _, _, m4⟩ := mb_facts M1.out
              have hkI : (k : Int) ≤ 6 := by have := HK.out; have := HPOS.out; have := HSM.out.1; omega
              clear hv
              go_wp2_with (first
                | (go_at_call 29; refine (HSZC.out).mono ?_; rintro e w5 ⟨rfl, rfl⟩)
                | (go_at_call 14; refine (HPB.out).mono ?_; rintro e w6 ⟨v6, rfl, o6, b6⟩; have O6 := Lib.hid (own_lower o6 B1.out.size); have M6 := Lib.hid (mb_keeps M1.out (keepsO_below b6)); have I6 := Lib.hid (iter_keeps I1.out (keepsO_below b6)); have B6 := Lib.hid (B1.out.trans (b6.mono B1.out.size)); clear o6 b6))
              go_roundw
              case rel =>
                exact ⟨pos + 1, pre ++ (beB (propsB ps).length 4 ++ propsB ps), ns', ts', k + 1, A7, A8, c7, c8, HPOS.out, rfl, rfl, by go_num, Lib.hid (Nat.succ_le_succ HK.out), Lib.hid ⟨by have h := O6.out; rw [List.append_assoc] at h; exact h, M6.out, I6.out, B6.out, HE.out.ri, HE.out.rs, by have := HE.out.len; have := HPP.out; simp only [List.length_append, beB_len]; omega, enc_tab_ok HE.out.tot HDR.out HZ.out rfl HX.out HV.out, HE.out.big, HE.out.ln, HE.out.lt⟩⟩
              case measure =>
                rw [iterPos_of I6.out, hmeas.out]
                have := HPOS.out
                omega
          · have HX := Lib.hid hx
            have hxI : ((x.toNat : Int) == 84) = false := beq_eq_false_iff_ne.2 (fun e => hx (UInt8.toNat_inj.1 (by show x.toNat = 84; omega)))
            clear hx
            cases ts' with
            | nil =>
              go_wp2_with (go_at_call 29; refine (HSZC.out).mono ?_; rintro e w5 ⟨rfl, rfl⟩)
              go_ret2
              exact encM_no (enc_txt_nil HE.out.tot HDR.out HZ.out rfl HX.out) B1.out
            | cons y ts' =>
              obtain ⟨a8, rfl, hc0⟩ := rs_head HE.out.rs
              have hc := cell_below B1.out (World.block_lt_of_cell? w _ hc0) hc0
              have HC0 := Lib.hid hc0
              have hlen : ((ts'.length : Int) + 1 == 0) = false := beq_eq_false_iff_ne.2 (by omega)
              clear hc0
              by_cases hy : 1024 < y.size
              · have hyI : (1024 : Int) < y.size := by omega
                have HY := Lib.hid hy
                clear hy
                go_wp2_with (go_at_call 29; refine (HSZC.out).mono ?_; rintro e w5 ⟨rfl, rfl⟩)
                go_ret2
                exact encM_no (enc_txt_bad HE.out.tot HDR.out HZ.out rfl HX.out (fun h => by have := HY.out; omega)) B1.out
              · have hyI : (y.size : Int) ≤ 1024 := by omega
                have HY := Lib.hid hy
                clear hy
                obtain ⟨A8', hsl, hrs, hlc⟩ := rs_tail w HE.out.rs
                have HRS := Lib.hid hrs
                have HPL := Lib.hid (show pre.length ≤ 70368744177664 by have := HE.out.len; have := HSM.out.1; have := HPOS.out; omega)
                clear hrs
                by_cases hs : x = 115
                · have HS := Lib.hid hs
                  have hsI : ((x.toNat : Int) == 115) = true := by rw [hs]; rfl
                  clear hs
                  by_cases hy2 : 255 < y.size
                  · have hy2I : (255 : Int) < y.size := by omega
                    have HY2 := Lib.hid hy2
                    clear hy2 hsl
                    go_wp2_with (go_at_call 29; refine (HSZC.out).mono ?_; rintro e w5 ⟨rfl, rfl⟩)
                    go_ret2
                    exact encM_no (enc_txt_bad HE.out.tot HDR.out HZ.out rfl HX.out (fun h => by have := HY2.out; have := h.2 HS.out; omega)) B1.out
                  · have hy2I : (y.size : Int) ≤ 255 := by omega
                    have HY2 := Lib.hid hy2
                    clear hy2
                    go_upto_region 15 with (go_at_call 29; refine (HSZC.out).mono ?_; rintro e w5 ⟨rfl, rfl⟩)
                    have OD := Lib.hid (show OB W.drew w.heap.size u6 pre from own_drew O1.out)
                    have MD := Lib.hid (show MB W.drew w.heap.size cn' im' (.slice An ns.length cn) (.slice At ts.length ct) (.slice Ap ps.length cp) from M1.out)
                    have ID := Lib.hid (show W.drew.heap[w3.heap.size]? = some (.stringIter s (pos + 1)) from I1.out)
                    have BD := Lib.hid (show Below w.heap.size w W.drew from B1.out.drew)
                    have q8 : W.drew.cell? a8 = some (.string y) := hc
                    go_region_held3 (fun w' => w'.cell? a8 = some (.string y))
                      (first | exact q8 | go_keep)
                      (first
                        | (refine step_app_s (w0 := w) (base := w.heap.size) (l := pre ++ beB y.size 1) rfl (.tmp 75) (.tmp 78) rfl y rfl rfl O5.out B5.out B5.out.size (by have := HE.out.len; have := HSM.out.1; have := HPOS.out; have := HY.out; simp only [List.length_append, beB_len]; omega) ?_; intro v7 w7 o7 B7 g7; have O7 := Lib.hid o7; have M7 := Lib.hid (mb_keeps M5.out (keepsO_grown O5.out g7)); have I7 := Lib.hid (iter_keeps I5.out (keepsO_grown O5.out g7)); have q8 := cell_below B7 (World.block_lt_of_cell? w _ HC0.out) HC0.out; clear o7 g7)
                        | (go_at_call 28; refine (bigO_c2 (base := w.heap.size) OD.out BD.out.size HPL.out y.size 1 (by have := HY.out; omega) (by omega) _ 1 (by first | rfl | exact IntWalk.u64_in _ (by have := HY.out; omega)) rfl).mono ?_; rintro e w5 ⟨v5, rfl, o5, b5, k5⟩; have O5 := Lib.hid o5; have M5 := Lib.hid (mb_keeps MD.out k5); have I5 := Lib.hid (iter_keeps ID.out k5); have B5 := Lib.hid (BD.out.trans b5); have q8 := cell_below B5.out (World.block_lt_of_cell? w _ HC0.out) HC0.out; clear o5 b5 k5))
                    go_wp2
                    go_roundw
                    case rel =>
                      exact ⟨pos + 1, pre ++ (beB y.size (if x = 115 then 1 else 4) ++ y.data.toList), ns', ts', k, A7, A8', c7, c8 - 1, HPOS.out, rfl, rfl, rfl, Lib.hid (Nat.le_succ_of_le HK.out), Lib.hid ⟨by have h := O7.out; rw [List.append_assoc] at h; rw [if_pos HS.out]; exact h, M7.out, I7.out, B7, HE.out.ri, HRS.out, by have := HE.out.len; have := HY.out; rw [if_pos HS.out]; simp only [List.length_append, beB_len, ba_size]; omega, enc_txt_ok HE.out.tot HDR.out HZ.out rfl HX.out ⟨by have := HY.out; omega, fun _ => by have := HY2.out; omega⟩, HE.out.big, HE.out.ln, Nat.le_trans (Nat.le_succ _) HE.out.lt⟩⟩
                    case measure =>
                      rw [iterPos_of I7.out, hmeas.out]
                      have := HPOS.out
                      omega
                · have HS := Lib.hid hs
                  have hsI : ((x.toNat : Int) == 115) = false := beq_eq_false_iff_ne.2 (fun e => hs (UInt8.toNat_inj.1 (by show x.toNat = 115; omega)))
                  clear hs
                  go_upto_region 15 with (go_at_call 29; refine (HSZC.out).mono ?_; rintro e w5 ⟨rfl, rfl⟩)
                  have OD := Lib.hid (show OB W.drew w.heap.size u6 pre from own_drew O1.out)
                  have MD := Lib.hid (show MB W.drew w.heap.size cn' im' (.slice An ns.length cn) (.slice At ts.length ct) (.slice Ap ps.length cp) from M1.out)
                  have ID := Lib.hid (show W.drew.heap[w3.heap.size]? = some (.stringIter s (pos + 1)) from I1.out)
                  have BD := Lib.hid (show Below w.heap.size w W.drew from B1.out.drew)
                  have q8 : W.drew.cell? a8 = some (.string y) := hc
                  go_region_held3 (fun w' => w'.cell? a8 = some (.string y))
                    (first | exact q8 | go_keep)
                    (first
                      | (refine step_app_s (w0 := w) (base := w.heap.size) (l := pre ++ beB y.size 4) rfl (.tmp 75) (.tmp 78) rfl y rfl rfl O5.out B5.out B5.out.size (by have := HE.out.len; have := HSM.out.1; have := HPOS.out; have := HY.out; simp only [List.length_append, beB_len]; omega) ?_; intro v7 w7 o7 B7 g7; have O7 := Lib.hid o7; have M7 := Lib.hid (mb_keeps M5.out (keepsO_grown O5.out g7)); have I7 := Lib.hid (iter_keeps I5.out (keepsO_grown O5.out g7)); have q8 := cell_below B7 (World.block_lt_of_cell? w _ HC0.out) HC0.out; clear o7 g7)
                      | (go_at_call 28; refine (bigO_c2 (base := w.heap.size) OD.out BD.out.size HPL.out y.size 4 (by have := HY.out; omega) (by omega) _ 4 (by first | rfl | exact IntWalk.u64_in _ (by have := HY.out; omega)) rfl).mono ?_; rintro e w5 ⟨v5, rfl, o5, b5, k5⟩; have O5 := Lib.hid o5; have M5 := Lib.hid (mb_keeps MD.out k5); have I5 := Lib.hid (iter_keeps ID.out k5); have B5 := Lib.hid (BD.out.trans b5); have q8 := cell_below B5.out (World.block_lt_of_cell? w _ HC0.out) HC0.out; clear o5 b5 k5))
                  go_wp2
                  go_roundw
                  case rel =>
                    exact ⟨pos + 1, pre ++ (beB y.size (if x = 115 then 1 else 4) ++ y.data.toList), ns', ts', k, A7, A8', c7, c8 - 1, HPOS.out, rfl, rfl, rfl, Lib.hid (Nat.le_succ_of_le HK.out), Lib.hid ⟨by have h := O7.out; rw [List.append_assoc] at h; rw [if_neg HS.out]; exact h, M7.out, I7.out, B7, HE.out.ri, HRS.out, by have := HE.out.len; have := HY.out; rw [if_neg HS.out]; simp only [List.length_append, beB_len, ba_size]; omega, enc_txt_ok HE.out.tot HDR.out HZ.out rfl HX.out ⟨by have := HY.out; omega, fun h => absurd h HS.out⟩, HE.out.big, HE.out.ln, Nat.le_trans (Nat.le_succ _) HE.out.lt⟩⟩
                  case measure =>
                    rw [iterPos_of I7.out, hmeas.out]
                    have := HPOS.out
                    omega
      · have hnx : ∀ ty, (Instr.next (.pointer (some ⟨w3.heap.size, 0, none⟩)) true ty).run Tryd.prog wr = .ok (.tuple #[.bool false]) wr := fun ty => Lib.run_next_end_at wr _ s pos ty HE.out.it hlt
        have hnil : s.data.toList.drop pos = [] := List.drop_eq_nil_of_le (by rw [ba_size]; omega)
        have HEN := Lib.hid (enc_end HE.out.tot hnil)
        obtain ⟨_, _, _, _, m4⟩ := mb_facts HE.out.mb
        clear hlt hnil
        cases ns' with
        | cons n ns' =>
          have h1 : (ns'.length : Int) + 1 ≤ 140737488351232 := by have := HE.out.ln; simp only [List.length_cons] at this; omega
          have h2 : (ts'.length : Int) ≤ 140737488351232 := by have := HE.out.lt; omega
          have h3 : (0 : Int) ≤ ts'.length := by omega
          have h4 : (0 : Int) ≤ ns'.length := by omega
          have h5 : (0 : Int) < (ns'.length : Int) + 1 + ts'.length := by omega
          go_wp2_with fail
          go_ret2
          exact encM_no (by rw [HEN.out]; simp) HE.out.bel
        | nil =>
          cases ts' with
          | cons t ts' =>
            have h1 : (ts'.length : Int) + 1 ≤ 140737488351232 := by have := HE.out.lt; simp only [List.length_cons] at this; omega
            have h3 : (0 : Int) ≤ ts'.length := by omega
            have h5 : (0 : Int) < (ts'.length : Int) + 1 := by omega
            go_wp2_with fail
            go_ret2
            exact encM_no (by rw [HEN.out]; simp) HE.out.bel
          | nil =>
            by_cases hk0 : k = 0
            · subst hk0
              cases ps with
              | nil =>
                go_wp2_with fail
                go_ret2
                exact encM_yes (by rw [HEN.out]; simp) HE.out.bel HE.out.own
              | cons p ps =>
                have h5 : (0 : Int) < (ps.length : Int) + 1 := by omega
                go_wp2_with fail
                go_ret2
                exact encM_no (by rw [HEN.out]; simp) HE.out.bel
            · have hkb : ((k : Int) == 0) = false := beq_eq_false_iff_ne.2 (by omega)
              have HK0 := Lib.hid hk0
              clear hk0
              go_wp2_with fail
              go_ret2
              exact encM_yes (by rw [HEN.out]; simp [HK0.out]) HE.out.bel HE.out.own
end Go.Proofs.YteigbejidfkhpaaDoor
