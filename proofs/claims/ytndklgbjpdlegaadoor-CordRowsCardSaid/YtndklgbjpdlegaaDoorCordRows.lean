/- CordRows: many numbers at once are written as one by one; two rows of parts are read as both. -/
import Derived.Test.YtndklgbjpdlegaaDoorCordBackP
import Derived.Test.YtndklgbjpdlegaaDoorCordPuts
import Derived.Deep.RegionWith
import Derived.BigRegion
import Derived.Deep.DeepCutAuto
import Derived.Deep.CutRange
namespace Go.Proofs.YtndklgbjpdlegaaDoor
open Go Go.RowKit
set_option linter.unusedSimpArgs false
set_option linter.unusedVariables false

namespace Rows2
theorem rd_lt {T : Nat} {S : Nat → Prop} {w : World} {R : Nat} {l : List UInt8} {bad : Bool} (h : Rd T S w R l bad) : R < w.heap.size := by
  obtain ⟨A, c, h, _⟩ := h
  exact (Array.getElem?_eq_some_iff.1 h).1

/-- The copy of a part that a round makes: its cells stand in the worlds that follow. -/
theorem copy_at {w wr : World} {R : Nat} {cs : Array Value} {t : TypeId} (h : (w.alloc (.cells cs t)).drew.grownBy wr (some R)) (hR : R < w.heap.size) (j : Nat) (u : Value) (hj : cs[j]? = some u) : wr.cell? ⟨w.heap.size, j, none⟩ = some u := by
  have hb : (w.alloc (.cells cs t)).drew.heap[w.heap.size]? = some (.cells cs t) := heap_alloc_new w _
  have := h.block w.heap.size (Array.getElem?_eq_some_iff.1 hb).1 (by intro e; injection e with e; omega)
  simp only [World.cell?, this, hb]
  simpa using hj

theorem ba_eta (s : ByteArray) : (⟨s.data.toList.toArray⟩ : ByteArray) = s := by cases s; simp


theorem info_part : (Tryd.prog.info? 33).map (fun i => (i.zero, i.size, i.bytes)) = some (some (.agg #[.bool false, .int .i64 0, .string ByteArray.empty]), 3, 32) := by kernel_rfl
theorem parts_one (ps : List Prt) : ∀ y ∈ ps.flatMap Prt.cells, y.oneCell' = true := by
  intro y hy
  obtain ⟨p, _, hp⟩ := List.mem_flatMap.1 hy
  simp only [Prt.cells, List.mem_cons, List.not_mem_nil, or_false] at hp
  rcases hp with rfl | rfl | rfl <;> rfl

set_option maxRecDepth 100000 in
set_option maxHeartbeats 8000000 in
theorem cordRows_c {w : World} {li v v' : Value} {ns : List Int} {ps qs : List Prt} (hG : G w) (hn : RI w li ns) (hns : I64 ns) (hnl : ns.length ≤ 140737488351232) (h : RP w v ps) (h' : RP w v' qs) (hg : ∀ p ∈ ps, p.good) (hg' : ∀ p ∈ qs, p.good) (hl : ps.length ≤ 140737488351232) (hl' : qs.length ≤ 140737488351232) :
    Calls Tryd.prog 8 #[li, v, v'] w fun e w' => e = .returned (.bool true) ∧ Below w.heap.size w w' := by
  have HG := Lib.hid hG
  have HGD := Lib.hid hg
  have HGD' := Lib.hid hg'
  have HP := Lib.hid h
  have HP' := Lib.hid h'
  have HN := Lib.hid hn
  have HNS := Lib.hid hns
  obtain ⟨A, c, rfl, hnc, _⟩ := parts_at h
  obtain ⟨A', c', rfl, hnc', _⟩ := parts_at h'
  obtain ⟨A2, c2, rfl, hcelln⟩ := ri_at hn
  have HCN := Lib.hid hcelln
  clear h hG hg h' hg' hn hns hcelln
  go_enter Tryd.func8, Tryd.ntmps8
  go_wp2_with (go_at_call 10; refine (wakes_c HG.out).mono ?_; rintro e w1 ⟨rfl, b1⟩)
  refine (put_c (HG.out.below HG.out.sz b1) (rc_below HP.out b1) HGD.out hl).mono ?_
  rintro e w2 ⟨b2, hx⟩
  have B2 := b1.trans (b2.mono b1.size)
  rcases hx with rfl | ⟨x, rfl, ox, hn1, hn2, hn3⟩
  · go_wp2_with fail
    refine (put_c (HG.out.below HG.out.sz B2) (rc_below HP'.out B2) HGD'.out hl').mono ?_
    rintro e w3 ⟨b3, hy⟩
    have B3 := B2.trans (b3.mono B2.size)
    rcases hy with rfl | ⟨y, rfl, oy, hm1, hm2, hm3⟩
    all_goals
      go_wp2
      go_ret
      exact ⟨rfl, B3⟩
  · have OX := Lib.hid ox
    clear ox
    go_wp2_with fail
    refine (put_c (HG.out.below HG.out.sz B2) (rc_below HP'.out B2) HGD'.out hl').mono ?_
    rintro e w3 ⟨b3, hy⟩
    have B3 := B2.trans (b3.mono B2.size)
    rcases hy with rfl | ⟨y, rfl, oy, hm1, hm2, hm3⟩
    · go_wp2
      go_ret
      exact ⟨rfl, B3⟩
    · by_cases h5 : (ns.length : Int) > 500
      · go_wp2
        go_ret
        exact ⟨rfl, B3⟩
      · have h5 : (ns.length : Int) ≤ 500 := by omega
        have OX3 := Lib.hid (own_below OX.out b3)
        have OY := Lib.hid oy
        have HOK : Hid (∀ p ∈ ps ++ qs, p.ok) := Lib.hid (by
          intro p hp
          rcases List.mem_append.1 hp with hp | hp
          · exact ⟨HGD.out p hp, hn3 p hp⟩
          · exact ⟨HGD'.out p hp, hm3 p hp⟩)
        clear oy OX hn3 hm3
        go_wp2_with fail
        go_loopw [11, 42] (fun x i wr => ∃ k : Nat, k ≤ ns.length ∧ i = .int .i64 k ∧ Hid (OB wr w3.heap.size x (numsB (ns.take k))) ∧ Below w3.heap.size w3 wr) (fun _ i _ => ns.length - (intOf i).toNat)
        case atStart => exact ⟨0, Nat.zero_le _, rfl, Lib.hid (ob_nil _ _), Below.refl _ _⟩
        case round =>
          obtain ⟨k, hk, rfl, O4, b4⟩ := hrel
          have B4 := B3.trans (b4.mono B3.size)
          have hws : w3.heap.size ≤ wr.heap.size := b4.size
          by_cases hlt : k < ns.length
          · obtain ⟨y, hy⟩ : ∃ y, ns[k]? = some y := ⟨_, List.getElem?_eq_getElem hlt⟩
            obtain ⟨ad, rfl, hc1⟩ := HCN.out k y hy
            have hcell := cell_below B4 (World.block_lt_of_cell? w _ hc1) hc1
            have hyb := HNS.out y (List.mem_of_getElem? hy)
            have htl : (numsB (ns.take k)).length ≤ 22 * k := by
              have := numsB_len (ns.take k) (fun n hn => HNS.out n (List.mem_of_mem_take hn))
              have h2 : (ns.take k).length ≤ k := List.length_take_le _ _
              omega
            have hts : ns.take (k + 1) = ns.take k ++ [y] := by rw [List.take_add_one, hy]; rfl
            have HTS := Lib.hid hts
            have B5 := B4.alloc B4.size (.cells #[.int .i64 y] 3)
            have b5 := b4.alloc b4.size (.cells #[.int .i64 y] 3)
            have HCL := Lib.hid (cordNum_c (ns := [y]) (HG.out.below HG.out.sz B5) (rc_alloc (ob_rb O4.out) _) (ri_lit wr [y] _ 1 rfl rfl (by omega)) (by intro m hm; simp at hm; subst hm; exact hyb) (by simp; omega))
            clear hy hts hc1
            go_wp2_with (go_at_call 12; refine (HCL.out).mono ?_; rintro e w6 ⟨v6, rfl, o6, b6⟩; have O6 := Lib.hid (own_lower (base' := w3.heap.size) o6 b5.size); clear o6)
            go_roundw
            case rel => exact ⟨k + 1, by omega, by go_num, Lib.hid (by have := O6.out; rw [show numsB [y] = numB y by simp [numsB]] at this; rw [HTS.out, numsB_snoc]; exact this), b5.trans (b6.mono b5.size)⟩
            case measure => simp [intOf]; omega
          · have hd : ns.take k = ns := List.take_of_length_le (by omega)
            rw [hd] at O4
            clear hd
            have hnb : (numsB ns).length ≤ 22 * ns.length := numsB_len ns HNS.out
            have bd := (Below.refl wr.heap.size wr).drew
            have hcu : ∀ W, Below wr.heap.size wr W → (convert 22 9 u11).run Tryd.prog W = .ok (.string ⟨(numsB ns).toArray⟩) W := fun W hW => rb_string (rb_below (ob_rb O4.out) hW)
            go_upto_region 13 with fail
            go_cut [56] from 51 to 56 (fun s56 wx => s56 = .bool false ∧ Below w3.heap.size w3 wx)
            case first =>
              first
                | go_region_with (go_at_call 12; refine (cordNum_c (l := []) (ns := ns) ?_ ?_ ?_ HNS.out (by simp; omega)).mono ?_; exact (HG.out.below HG.out.sz B4.drew); exact (rb_nil _); exact (rc_below HN.out B4.drew); rintro e w5 ⟨v5, rfl, o5, b5⟩; have d5 := bd.trans (b5.mono bd.size); have b35 := b4.drew.trans (b5.mono b4.drew.size); have hc5 := rb_string (ob_rb o5))
                | fail
              all_goals
                go_wp2
                go_meet
                exact ⟨by first | rfl | (simp; done), b35⟩
            case rest =>
              obtain ⟨rfl, b5⟩ := hcut
              have B5 := B3.trans (b5.mono B3.size)
              clear hcu O4
              have OXC := Lib.hid (own_below OX3.out b5)
              have OYC := Lib.hid (own_below OY.out b5)
              go_wp2_with (first
                | (at_builtin; refine app_b (w0 := wc) (base := wc.heap.size) (l := []) (m := partsB ps) rfl (.tmp 57) (.tmp 58) rfl rfl rfl (World.ownsRow_made wc #[] 0 (Nat.le_refl _) (Nat.zero_le _) (by simp)) (rc_alloc (ob_rb OXC.out) _) ((Below.refl _ _).alloc (Nat.le_refl _) _) (by simp) (by simp; omega) ?_; intro v6 w6 o6 b6 _ _; simp only [List.nil_append] at o6; have O6 := Lib.hid o6; clear o6)
                | (at_builtin; refine app_b (w0 := wc) (base := wc.heap.size) (l := partsB ps) (m := partsB qs) rfl (.tmp 59) (.tmp 60) rfl rfl rfl O6.out (rb_below (ob_rb OYC.out) b6) b6 b6.size (by omega) ?_; intro v7 w7 o7 b7 _ _; have O7 := Lib.hid o7; clear o7)
                | (go_at_call 16; refine (rd_new (ob_rb O7.out) (by simp; omega)).mono ?_; rintro e w8 ⟨R, rfl, hRs, hr8, b8⟩; have b38 := (b5.trans ((b7.trans (b8.mono b7.size)).mono b5.size)); have B8 := B3.trans (b38.mono B3.size); have HR8 := Lib.hid hr8; clear hr8)
                | (at_builtin; refine app_own (w0 := w8) w8.heap.size 29 33 3 32 _ Tryd.underlying29 info_part rfl (by decide) rfl (.tmp 63) (.tmp 64) rfl _ _ 0 ps.length [] (ps.flatMap Prt.cells) rfl rfl (World.ownsRow_made w8 #[] 0 (Nat.le_refl _) (Nat.zero_le _) (by simp)) (rc_alloc (rc_below HP.out B8) _) (parts_one ps) ((Below.refl _ _).alloc (Nat.le_refl _) _) (by omega) (by omega) (by simp) ?_; intro v9 w9 o9 b9 _ _; have O9 := Lib.hid o9; clear o9)
                | (at_builtin; refine app_own (w0 := w8) w8.heap.size 29 33 3 32 _ Tryd.underlying29 info_part rfl (by decide) rfl (.tmp 65) (.tmp 66) rfl _ _ (0 + ps.length) qs.length ([] ++ ps.flatMap Prt.cells) (qs.flatMap Prt.cells) rfl rfl O9.out (rc_below (rc_below HP'.out B8) b9) (parts_one qs) b9 (by omega) (by omega) b9.size ?_; intro v10 w10 o10 b10 _ _; obtain ⟨rs, hrs⟩ : ∃ rs, Hid (rs = ps ++ qs) := ⟨_, Lib.hid rfl⟩; have hrp : RP w10 v10 rs := (by have := own_rc o10; rw [hrs.out]; simpa [RP, List.flatMap_append] using this); obtain ⟨A9, c9, rfl, hnc9, hcell9⟩ := parts_at hrp; have HP9 := Lib.hid hrp; have hne9 : ∀ A n c, Value.slice A9 rs.length c9 = .slice (some A) n c → w8.heap.size ≤ A.block := (by intro A n c he; rw [he] at o10; exact own_base o10 A.block (by simp [Value.ownBlock])); have HNE := Lib.hid hne9; clear hcell9 o10 hrp hne9)
                | fail)
              have hrl : rs.length ≤ 400 := by rw [hrs.out, List.length_append]; omega
              have hpb : partsB ps ++ partsB qs = partsB rs := by rw [hrs.out]; simp [partsB]
              rw [hpb] at HR8
              rw [← hrs.out] at HOK
              have hs8 := b10.size
              have HR10 := Lib.hid (rd_keep HR8.out b10)
              have b3t := b38.trans (b10.mono b38.size)
              have hR10 := rd_lt HR10.out
              clear hrs hpb
              go_loopw [69] (fun i wr => ∃ k : Nat, k ≤ rs.length ∧ i = .int .i64 k ∧ Below w3.heap.size w3 wr ∧ w10.grownBy wr (some R) ∧ R < wr.heap.size ∧ Hid (Rd 51 (fun k => w7.heap.size ≤ k ∧ k < R) wr R (partsB (rs.drop k)) false)) (fun i _ => rs.length - (intOf i).toNat)
              case atStart => exact ⟨0, Nat.zero_le _, rfl, b3t, World.grownBy.refl _ _, hR10, by simpa using HR10⟩
              case round =>
                obtain ⟨k, hk, rfl, b6, gr, hRwr, HR6⟩ := hrel
                have hR8 := rd_lt HR8.out
                have hsz5 := b5.size
                have hsz7 := b7.size
                clear HR10
                have B6 := B3.trans (b6.mono B3.size)
                have hws : w3.heap.size ≤ wr.heap.size := b6.size
                by_cases hlt : k < rs.length
                · obtain ⟨p, hp⟩ : ∃ y, rs[k]? = some y := ⟨_, List.getElem?_eq_getElem hlt⟩
                  obtain ⟨A', c', he, _, hcell⟩ := parts_at (rc_grown HP9.out gr (fun A n c he => by have := HNE.out A n c he; omega))
                  injection he with e1 e2 e3
                  subst e1 e3
                  obtain ⟨ad, rfl, c0, c1, c2⟩ := hcell k p hp
                  clear hcell e2
                  have hpo : p.ok := ⟨(HOK.out p (List.mem_of_getElem? hp)).1, (HOK.out p (List.mem_of_getElem? hp)).2⟩
                  have hdr := partsB_drop hp
                  have hsl := slen hpo
                  have hpg := hpo.1
                  have HDR := Lib.hid hdr
                  obtain ⟨t, n, s⟩ := p
                  simp only at c0 c1 c2
                  clear hp hdr
                  have BW := (B6.alloc B6.size (.cells #[.bool t, .int .i64 n, .string s] 33)).drew
                  have bW := (b6.alloc b6.size (.cells #[.bool t, .int .i64 n, .string s] 33)).drew
                  have hRW := rd_keep HR6.out ((Below.refl _ wr).alloc (Nat.le_refl _) (.cells #[.bool t, .int .i64 n, .string s] 33)).drew
                  have HRW := Lib.hid hRW
                  clear hRW
                  cases t with
                  | true =>
                    have hrd : rStr (partsB (rs.drop k)) false = (s.data.toList, partsB (rs.drop (k + 1)), false) := by
                      rw [HDR.out]
                      exact rStr_put s.data.toList _ (by simp only at hsl; omega) false
                    have HCL := Lib.hid ((rd_str (HG.out.below HG.out.sz BW) HRW.out).mono (R' := RdPost 51 (fun k => w7.heap.size ≤ k ∧ k < R) _ R (.string s) (partsB (rs.drop (k + 1))) false) (by
                      rintro e w' ⟨he, hr, hg⟩
                      rw [hrd] at he hr
                      rw [he]
                      exact ⟨by simp only [ba_eta], hr, hg⟩))
                    clear hrd HRW
                    go_wp2
                    first
                    | go_region_with (go_at_call 19; refine (HCL.out).mono ?_; rintro e w11 ⟨rfl, r7, g7⟩; have q0 := copy_at g7 hRwr 0 _ rfl; have q1 := copy_at g7 hRwr 1 _ rfl; have q2 := copy_at g7 hRwr 2 _ rfl; have b7 := bW.grown g7 (by have := bW.size; omega) (by intro k hk; injection hk with hk; omega); have hs7 := g7.size; have R7 := Lib.hid r7; clear r7)
                    | fail
                    all_goals
                      go_wp2
                      all_goals go_roundw
                      all_goals first | (exact ⟨k + 1, by omega, by go_num, b7, (gr.trans (grownBy_below ((Below.refl _ wr).alloc (Nat.le_refl _) _).drew (some R))).trans g7, by simp [World.drew] at hs7; omega, R7⟩) | (simp [intOf]; omega)
                  | false =>
                    have hrd : rNum (partsB (rs.drop k)) false = (n, partsB (rs.drop (k + 1)), false) := by
                      rw [HDR.out]
                      exact rNum_put n hpg.1 hpg.2 _ false
                    have HCL := Lib.hid ((rd_num (HG.out.below HG.out.sz BW) HRW.out).mono (R' := RdPost 51 (fun k => w7.heap.size ≤ k ∧ k < R) _ R (.int .i64 n) (partsB (rs.drop (k + 1))) false) (by
                      rintro e w' ⟨he, hr, hg⟩
                      rw [hrd] at he hr
                      rw [he]
                      exact ⟨rfl, hr, hg⟩))
                    clear hrd HRW
                    go_wp2
                    first
                    | go_region_with (go_at_call 17; refine (HCL.out).mono ?_; rintro e w11 ⟨rfl, r7, g7⟩; have q0 := copy_at g7 hRwr 0 _ rfl; have q1 := copy_at g7 hRwr 1 _ rfl; have q2 := copy_at g7 hRwr 2 _ rfl; have b7 := bW.grown g7 (by have := bW.size; omega) (by intro k hk; injection hk with hk; omega); have hs7 := g7.size; have R7 := Lib.hid r7; clear r7)
                    | fail
                    all_goals
                      go_wp2
                      all_goals go_roundw
                      all_goals first | (exact ⟨k + 1, by omega, by go_num, b7, (gr.trans (grownBy_below ((Below.refl _ wr).alloc (Nat.le_refl _) _).drew (some R))).trans g7, by simp [World.drew] at hs7; omega, R7⟩) | (simp [intOf]; omega)
                · have hend : partsB (rs.drop k) = [] := by rw [List.drop_eq_nil_of_le (by omega)]; rfl
                  rw [hend] at HR6
                  clear hend
                  go_wp2_with (go_at_call 22; refine (rd_end HR6.out).mono ?_; rintro e w6 ⟨rfl, rfl⟩)
                  go_ret
                  exact ⟨rfl, B6⟩
end Rows2
end Go.Proofs.YtndklgbjpdlegaaDoor
