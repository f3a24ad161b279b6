/- CordKeeps: what is handed in stays; what is answered is its own; a reader doesn't see what is written behind New. -/
import Derived.Test.YtndklgbjpdlegaaDoorCordKeepsA
import Derived.Test.YtndklgbjpdlegaaDoorCordReads
import Derived.Deep.RegionWith
import Derived.BigRegion
import Derived.Deep.RegionHeld3
import Derived.Deep.DeepCutAuto
import Derived.Deep.CutRange
namespace Go.Proofs.YtndklgbjpdlegaaDoor
open Go Go.RowKit
set_option linter.unusedSimpArgs false
set_option linter.unusedVariables false

def spareB : List UInt8 := [115, 112, 97, 114, 101]

theorem ba_ext {a b : ByteArray} (h : a.data = b.data) : a = b := by cases a; cases b; simp_all

theorem mine_facts {w : World} {base : Nat} {v : Value} {l : List UInt8} (h : w.ownsRow base 5 1 v (l ++ (⟨#[115, 112, 97, 114, 101]⟩ : ByteArray).data.toList).length (Lib.byteCells (l ++ (⟨#[115, 112, 97, 114, 101]⟩ : ByteArray).data.toList))) :
    Hid (OB w base v (l ++ spareB)) ∧ ∃ cm gm, v = .slice (some ⟨gm, 0, none⟩) (l.length + 5) cm ∧ l.length + 5 ≤ cm ∧ (base ≤ gm ∧ gm < w.heap.size) ∧ Hid (WB w gm (l.length + 5)) ∧ Hid (RB w (.slice (some ⟨gm, 0, none⟩) l.length cm) l) := by
  have O2 : OB w base v (l ++ spareB) := h
  obtain ⟨Am, cm, gm, rfl, hmc, hgm, hgm2⟩ := wb_own (N := 0) O2
  obtain ⟨rfl, HWM⟩ := hgm (by simp [spareB])
  have hml : (l ++ spareB).length = l.length + 5 := by simp [spareB]
  have hpre := rb_take (ob_rb O2) rfl l.length (by omega)
  rw [show (l ++ spareB).take l.length = l by simp] at hpre
  rw [hml] at hmc HWM
  refine ⟨O2, cm, gm, by rw [hml], hmc, ?_, HWM, hpre⟩
  rcases hgm2 with h | ⟨_, h⟩
  · exact h
  · exact absurd h (by simp [spareB])

set_option maxRecDepth 100000 in
set_option maxHeartbeats 4000000 in
theorem cordKeeps_c {w : World} {b li : Value} {l : List UInt8} {ns : List Int} (hG : G w) (hb : RB w b l) (hn : RI w li ns) (hns : I64 ns) (hl : l.length ≤ 140737488351232) (hnl : ns.length ≤ 140737488351232) :
    Calls Tryd.prog 5 #[b, li] w fun e w' => e = .returned (.bool true) ∧ Below w.heap.size w w' := by
  have HB := Lib.hid hb
  have HN := Lib.hid hn
  have HNS := Lib.hid hns
  have HG := Lib.hid hG
  obtain ⟨A, c, rfl, hnc, hc, _, _, _⟩ := id hb
  obtain ⟨A2, c2, rfl, _⟩ := ri_at hn
  clear hb hn hns hG
  by_cases hg : (l.length : Int) > 4096 ∨ (ns.length : Int) > 200
  · by_cases h1 : (l.length : Int) > 4096
    all_goals
      go_enter Tryd.func5, Tryd.ntmps5
      go_wp2_with (go_at_call 10; refine (wakes_c HG.out).mono ?_; rintro e w1 ⟨rfl, b1⟩)
      go_ret
      exact ⟨rfl, b1⟩
  · have hg1 : (l.length : Int) ≤ 4096 := by omega
    have hg2 : (ns.length : Int) ≤ 200 := by omega
    have hnb : (numsB ns).length ≤ 22 * ns.length := numsB_len ns HNS.out
    clear hg
    go_enter Tryd.func5, Tryd.ntmps5
    go_wp2_with (first
      | (go_at_call 10; refine (wakes_c HG.out).mono ?_; rintro e w1 ⟨rfl, b1⟩; have B1 := b1)
      | (at_builtin; refine app_b (w0 := w1) (base := w1.heap.size) (l := []) (m := l) rfl (.tmp 23) (.tmp 24) rfl rfl rfl (World.ownsRow_made w1 #[] 0 (Nat.le_refl _) (Nat.zero_le _) (by simp)) (rc_alloc (rb_below HB.out b1) _) ((Below.refl _ _).alloc (Nat.le_refl _) _) (by simp) (by simp; omega) ?_; intro v0 w0 o0 b0 _ _; simp only [List.nil_append] at o0; have O0 := Lib.hid o0; clear o0)
      | (at_builtin; refine app_s (w0 := w1) (base := w1.heap.size) (l := l) rfl (.tmp 25) (.const (.string ⟨#[115, 112, 97, 114, 101]⟩)) rfl ⟨#[115, 112, 97, 114, 101]⟩ rfl rfl O0.out b0 b0.size (by have h5 : (⟨#[115, 112, 97, 114, 101]⟩ : ByteArray).size = 5 := rfl; omega) ?_; intro v2 w2 o2 b2 _; go_loud (obtain ⟨O2, cm, gm, rfl, hmc, hgm3, HWM, HPRE⟩ := mine_facts o2); have B2 := B1.trans (b2.mono B1.size); go_loud (have hmc' : (l.length : Int) ≤ cm := by omega); clear o2)
      | fail)
    have hs1 := b1.size
    have hs2 := b2.size
    refine (cordNum_c (HG.out.below HG.out.sz B2) HPRE.out (rc_below HN.out B2) HNS.out (by omega)).mono ?_
    rintro e w3 ⟨vx, rfl, ox, b3⟩
    obtain ⟨xs, hxs⟩ : ∃ xs, Hid (xs = l ++ numsB ns) := ⟨_, Lib.hid rfl⟩
    rw [← hxs.out] at ox
    obtain ⟨Ax, cx, gx, rfl, hxc, hWX, hgx⟩ := wb_own (N := 0) ox
    have HWX := Lib.hid hWX
    have hgx : (w2.heap.size ≤ gx ∧ gx < w3.heap.size) ∨ (gx = 0 ∧ xs.length = 0) := by rcases hgx with h | ⟨h, h2⟩; exact .inl h; exact .inr ⟨h, by rw [h2]; rfl⟩
    have hxl : xs.length ≤ 100000 := by rw [hxs.out, List.length_append]; omega
    clear hWX
    have HPRE3 := Lib.hid (rb_below HPRE.out b3)
    have B3 := B2.trans (b3.mono B2.size)
    have hs3 := b3.size
    clear ox
    go_wp2_with fail
    refine (cordStr_c (HG.out.below HG.out.sz B3) HPRE3.out ⟨#[97]⟩ (by have h5 : (⟨#[97]⟩ : ByteArray).size = 1 := rfl; omega)).mono ?_
    rintro e w4 ⟨vy, rfl, oy, b4⟩
    have OY := Lib.hid oy
    have HPRE4 := Lib.hid (rb_below HPRE3.out b4)
    have B4 := B3.trans (b4.mono B3.size)
    have hs4 := b4.size
    clear oy
    go_wp2_with fail
    refine (cordNum_c (HG.out.below HG.out.sz B4) HPRE4.out (rc_below HN.out B4) HNS.out (by omega)).mono ?_
    rintro e w5 ⟨vz, rfl, oz, b5⟩
    obtain ⟨zs, hzs⟩ : ∃ zs, Hid (zs = l ++ numsB ns) := ⟨_, Lib.hid rfl⟩
    rw [← hzs.out] at oz
    obtain ⟨Az, cz, rfl, hzc0, hzc⟩ : ∃ Az cz, vz = .slice Az zs.length cz ∧ True ∧ zs.length ≤ cz := by
      obtain ⟨A, c, h, hx, _⟩ := ob_rb oz
      exact ⟨A, c, h, trivial, hx⟩
    have hzl : l.length ≤ zs.length := by rw [hzs.out, List.length_append]; omega
    have hzt : Hid (zs.take l.length = l) := Lib.hid (by rw [hzs.out]; simp)
    have OZ := Lib.hid oz
    have HPRE5 := Lib.hid (rb_below HPRE4.out b5)
    have B5 := B4.trans (b5.mono B4.size)
    have hs5 := b5.size
    clear oz
    go_wp2_with fail
    refine (rd_new HPRE5.out (by omega)).mono ?_
    rintro e w6 ⟨R, rfl, hRs, hr6, b6⟩
    have B6 := B5.trans (b6.mono B5.size)
    have hs6 := b6.size
    have b26 : Below w2.heap.size w2 w6 := b3.trans ((b4.trans ((b5.trans (b6.mono b5.size)).mono b4.size)).mono b3.size)
    have HR6 := Lib.hid hr6
    have hRlt : R < w6.heap.size := by obtain ⟨A, c, h, _⟩ := hr6; exact (Array.getElem?_eq_some_iff.1 h).1
    have hcm := rb_string (rb_below (ob_rb O2.out) b26)
    have hcb := rb_string (rb_below HB.out B6)
    have hsm : (⟨l.toArray⟩ ++ ⟨#[115, 112, 97, 114, 101]⟩ : ByteArray) = ⟨(l ++ spareB).toArray⟩ := by
      apply ba_ext
      simp [spareB]
    clear hr6
    go_wp2_with (first
      | (at_builtin; refine app_b (w0 := w6) (base := w6.heap.size) (l := []) (m := l) rfl (.tmp 55) (.tmp 56) rfl rfl rfl (World.ownsRow_made w6 #[] 0 (Nat.le_refl _) (Nat.zero_le _) (by simp)) (rc_alloc (rb_below HB.out B6) _) ((Below.refl _ _).alloc (Nat.le_refl _) _) (by simp) (by simp; omega) ?_; intro v7 w7 o7 b7 _ _; simp only [List.nil_append] at o7; obtain ⟨A7, c7, rfl, hA07⟩ := id (ob_rb o7); clear hA07; have O7 := Lib.hid o7; clear o7)
      | fail)
    have HQ8 := Lib.hid (rd_made (T := 38) O7.out (by omega))
    obtain ⟨W8, hW8⟩ : ∃ W8, W8 = w7.alloc (.cells #[.slice A7 l.length c7, .bool false] 38) := ⟨_, rfl⟩
    have b68 : Below w6.heap.size w6 W8 := by rw [hW8]; exact b7.alloc b7.size _
    rw [← hW8] at HQ8 ⊢
    have h7s : w7.heap.size < W8.heap.size := by rw [hW8]; show _ < (w7.heap.push _).size; rw [Array.size_push]; omega
    clear hW8
    have B8 := B6.trans (b68.mono B6.size)
    have hs7 := b7.size
    have hw0 : 1 ≤ w.heap.size := by have := HG.out.sz; unfold NG at this; omega
    have b58 : Below w5.heap.size w5 W8 := b6.trans (b68.mono b6.size)
    have b48 : Below w4.heap.size w4 W8 := b5.trans (b58.mono b5.size)
    have b38 : Below w3.heap.size w3 W8 := b4.trans (b48.mono b4.size)
    have b28 : Below w2.heap.size w2 W8 := b3.trans (b38.mono b3.size)
    have HR8 := Lib.hid (rd_keep HR6.out b68)
    go_loopw [61] (fun i wr => ∃ k : Nat, k ≤ xs.length ∧ i = .int .i64 k ∧ Hid (0 < xs.length → WB wr gx xs.length) ∧ W8.grownBy wr (some gx) ∧ Below w.heap.size w wr) (fun i _ => xs.length - (intOf i).toNat)
    case atStart => exact ⟨0, Nat.zero_le _, rfl, Lib.hid (fun h => wb_below (HWX.out h).2 b38), World.grownBy.refl _ _, B8⟩
    case round =>
      obtain ⟨k, hk, rfl, HW1, gr1, BL⟩ := hrel
      by_cases hlt : k < xs.length
      · obtain ⟨rfl, _⟩ := HWX.out (by omega)
        have hWB := HW1.out (by omega)
        obtain ⟨u, hu⟩ := wb_cell hWB hlt
        have hf := wb_frozen hWB k
        have hadd := add_plain gx k
        have HWB := Lib.hid hWB
        clear hWB
        go_wp2
        go_roundw
        case rel => exact ⟨k + 1, by omega, by go_num, Lib.hid (fun _ => wb_set HWB.out k _), gr1.trans (grownBy_set _ gx k _), BL.grown (grownBy_set _ gx k _) BL.size (by intro k hk; injection hk with hk; omega)⟩
        case measure => simp [intOf]; omega
      · obtain ⟨wL, hwL⟩ : ∃ wL, wL = wr := ⟨_, rfl⟩
        have HWM1 := Lib.hid (wb_grown (wb_below HWM.out b28) gr1 (by omega))
        have OYL := Lib.hid (rb_kept OY.out b48 gr1 (by omega))
        have OZL := Lib.hid (rb_kept OZ.out b58 gr1 (by omega))
        have HRL := Lib.hid (rd_other HR8.out gr1 (by omega) (by omega))
        have HQL := Lib.hid (rd_other HQ8.out gr1 (by omega) (by omega))
        go_wp2
        go_loopw [70] (fun i wr' => ∃ k : Nat, k ≤ l.length + 5 ∧ i = .int .i64 k ∧ Hid (WB wr' gm (l.length + 5)) ∧ wL.grownBy wr' (some gm) ∧ Below w.heap.size w wr') (fun i _ => l.length + 5 - (intOf i).toNat)
        case atStart => exact ⟨0, Nat.zero_le _, rfl, HWM1, by rw [hwL]; exact World.grownBy.refl _ _, BL⟩
        case round =>
          obtain ⟨k2, hk2, rfl, HW2, gr2, BF⟩ := hrel
          by_cases hlt2 : k2 < l.length + 5
          · obtain ⟨u, hu⟩ := wb_cell HW2.out hlt2
            have hf := wb_frozen HW2.out k2
            have hadd := add_plain gm k2
            go_wp2
            go_roundw
            case rel => exact ⟨k2 + 1, by omega, by go_num, Lib.hid (wb_set HW2.out k2 _), gr2.trans (grownBy_set _ gm k2 _), BF.grown (grownBy_set _ gm k2 _) BF.size (by intro k hk; injection hk with hk; omega)⟩
            case measure => simp [intOf]; omega
          · subst hwL
            have OYF := Lib.hid (rb_kept OYL.out (Below.refl _ _) gr2 (by omega))
            have OZF := Lib.hid (rb_kept OZL.out (Below.refl _ _) gr2 (by omega))
            have HRF := Lib.hid (rd_other HRL.out gr2 (by omega) (by omega))
            have HQF := Lib.hid (rd_other HQL.out gr2 (by omega) (by omega))
            have bd := (Below.refl wr.heap.size wr).drew
            have hcy : ∀ W, Below wr.heap.size wr W → (convert 22 9 vy).run Tryd.prog W = .ok (.string ⟨(l ++ strB (⟨#[97]⟩ : ByteArray).data.toList).toArray⟩) W := fun W hW => rb_string (rb_below (ob_rb OYF.out) hW)
            have hcz : ∀ W, Below wr.heap.size wr W → (convert 22 9 (.slice Az l.length cz)).run Tryd.prog W = .ok (.string ⟨l.toArray⟩) W := fun W hW => rb_string (by have := rb_take (rb_below (ob_rb OZF.out) hW) rfl l.length (by omega); rw [hzt.out] at this; exact this)
            have hcb2 : ∀ W, Below wr.heap.size wr W → (convert 22 9 (.slice A l.length c)).run Tryd.prog W = .ok (.string ⟨l.toArray⟩) W := fun W hW => rb_string (rb_below HB.out (BF.trans (hW.mono BF.size)))
            have hzI : (l.length : Int) ≤ (zs.length : Int) := by omega
            have hzI2 : (l.length : Int) ≤ (cz : Int) := by omega
            clear hcb hcm hsm
            go_upto_region 23 with fail
            go_cut [4] from 77 to 105 (fun s4 wx => s4 = .bool true ∧ Below w.heap.size w wx)
            case first =>
              go_region_held (fun w' => w'.heap.size = w'.heap.size)
                (first | exact rfl | go_keep)
                (first
                  | (go_at_call 14; refine (refStr_c (l := l) ?_ ?_ ⟨#[97]⟩ (by have h5 : (⟨#[97]⟩ : ByteArray).size = 1 := rfl; omega)).mono ?_; exact (HG.out.below HG.out.sz BF.drew); exact (rb_below HB.out BF.drew); rintro e w10 ⟨v10, rfl, o10, b10⟩; have d10 := bd.trans (b10.mono bd.size); have hc10 : ∀ W, Below w10.heap.size w10 W → (convert 22 9 v10).run Tryd.prog W = .ok (.string ⟨(l ++ strB (⟨#[97]⟩ : ByteArray).data.toList).toArray⟩) W := fun W hW => rb_string (rb_below (ob_rb o10) hW); have r10 := Below.refl w10.heap.size w10; have bnow := BF.drew.trans (b10.mono BF.drew.size); have rnow := Lib.hid (rd_keep HRF.out d10); have qnow := Lib.hid (rd_keep HQF.out d10))
                  | (go_at_call 17; refine (rd_num (HG.out.below HG.out.sz bnow) rnow.out).mono ?_; rintro e w11 ⟨rfl, r11, g11⟩; have bnow := bnow.grown g11 bnow.size (by intro k hk; injection hk with hk; omega); have qnow := Lib.hid (rd_other qnow.out g11 (by omega) (by omega)); have rnow := Lib.hid r11)
                  | (go_at_call 18; refine (rr_num (HG.out.below HG.out.sz bnow) qnow.out).mono ?_; rintro e w12 ⟨rfl, r12, g12⟩; have bnow := bnow.grown g12 bnow.size (by intro k hk; injection hk with hk; omega); have rnow := Lib.hid (rd_other rnow.out g12 (by omega) (by omega)); have qnow := Lib.hid r12))
              all_goals (go_wp2; go_meet; exact ⟨by first | rfl | (simp; done), bnow⟩)
            case rest =>
              obtain ⟨rfl, bz⟩ := hcut
              go_wp2
              go_ret
              exact ⟨rfl, bz⟩
end Go.Proofs.YtndklgbjpdlegaaDoor
