/- CordBack: parts that were put are read as they are; of a proper beginning something isn't there. -/
import Derived.Test.YtndklgbjpdlegaaDoorCordBackP
import Derived.Deep.RegionWith
import Derived.BigRegion
import Derived.Deep.RegionHeld3
namespace Go.Proofs.YtndklgbjpdlegaaDoor
open Go Go.RowKit
set_option linter.unusedSimpArgs false
set_option linter.unusedVariables false

theorem rd_lt {T : Nat} {S : Nat → Prop} {w : World} {R : Nat} {l : List UInt8} {bad : Bool} (h : Rd T S w R l bad) : R < w.heap.size := by
  obtain ⟨A, c, h, _⟩ := h
  exact (Array.getElem?_eq_some_iff.1 h).1

/-- The copy of a part that a round makes: its cells stand in the worlds that follow. -/
theorem copy_at {w wr : World} {R : Nat} {cs : Array Value} {t : TypeId} (h : (w.alloc (.cells cs t)).drew.grownBy wr (some R)) (hR : R < w.heap.size) (j : Nat) (u : Value) (hj : cs[j]? = some u) : wr.cell? ⟨w.heap.size, j, none⟩ = some u := by
  have hb : (w.alloc (.cells cs t)).drew.heap[w.heap.size]? = some (.cells cs t) := heap_alloc_new w _
  have := h.block w.heap.size (Array.getElem?_eq_some_iff.1 hb).1 (by intro e; injection e with e; omega)
  simp only [World.cell?, this, hb]
  simpa using hj

theorem ba_eta (s : ByteArray) : (⟨s.data.toList.toArray⟩ : ByteArray) = s := by cases s; simp

set_option maxRecDepth 100000 in
set_option maxHeartbeats 8000000 in
theorem cordBack_c {w : World} {v : Value} {ps : List Prt} (hG : G w) (h : RP w v ps) (hg : ∀ p ∈ ps, p.good) (hl : ps.length ≤ 140737488351232) :
    Calls Tryd.prog 7 #[v] w fun e w' => e = .returned (.bool true) ∧ Below w.heap.size w w' := by
  have HG := Lib.hid hG
  have HGD := Lib.hid hg
  have HP := Lib.hid h
  obtain ⟨A, c, rfl, hnc, hcell⟩ := parts_at h
  have HC := Lib.hid hcell
  clear h hG hg hcell
  go_enter Tryd.func7, Tryd.ntmps7
  go_wp2_with (go_at_call 10; refine (wakes_c HG.out).mono ?_; rintro e w1 ⟨rfl, b1⟩)
  refine (put_c (HG.out.below HG.out.sz b1) (rc_below HP.out b1) HGD.out hl).mono ?_
  rintro e w2 ⟨b2, hx⟩
  have B2 := b1.trans (b2.mono b1.size)
  rcases hx with rfl | ⟨x, rfl, ox, hn1, hn2, hn3⟩
  · go_wp2
    go_ret
    exact ⟨rfl, B2⟩
  · obtain ⟨Ax, cx, rfl, hcx, _⟩ := id (ob_rb ox)
    have OX := Lib.hid ox
    have HN3 := Lib.hid hn3
    clear ox hn3
    go_wp2_with (first
      | (at_builtin; refine app_b (w0 := w2) (base := w2.heap.size) (l := []) (m := partsB ps) rfl (.tmp 21) (.tmp 22) rfl rfl rfl (World.ownsRow_made w2 #[] 0 (Nat.le_refl _) (Nat.zero_le _) (by simp)) (rc_alloc (ob_rb OX.out) _) ((Below.refl _ _).alloc (Nat.le_refl _) _) (by simp) (by simp; omega) ?_; intro v3 w3 o3 b3 _ _; simp only [List.nil_append] at o3; have O3 := Lib.hid o3; clear o3)
      | (at_builtin; refine app_b (w0 := w2) (base := w2.heap.size) (l := partsB ps) (m := [120]) rfl (.tmp 23) (.tmp 24) rfl rfl rfl (O3.out.alloc _) (rb_one _ 120) (b3.alloc b3.size _) (by have := b3.size; simp; omega) (by simp; omega) ?_; intro v4 w4 o4 b4 _ _; have O4 := Lib.hid o4; clear o4)
      | (go_at_call 16; refine (rd_new (ob_rb O4.out) (by simp; omega)).mono ?_; rintro e w5 ⟨R, rfl, hRs, hr5, b5⟩; have b25 := b4.trans (b5.mono b4.size); have HR5 := Lib.hid hr5; clear hr5))
    have hRlt := rd_lt HR5.out
    have hs4 := b4.size
    go_loopw [29] (fun i wr => ∃ k : Nat, k ≤ ps.length ∧ i = .int .i64 k ∧ Below w2.heap.size w2 wr ∧ R < wr.heap.size ∧ Hid (Rd 51 (fun k => w4.heap.size ≤ k ∧ k < R) wr R (partsB (ps.drop k) ++ [120]) false)) (fun i _ => ps.length - (intOf i).toNat)
    case atStart => exact ⟨0, Nat.zero_le _, rfl, b25, hRlt, by simpa using HR5⟩
    case round =>
      obtain ⟨k, hk, rfl, b6, hRwr, HR6⟩ := hrel
      clear HR5
      have B6 := B2.trans (b6.mono B2.size)
      have hws : w2.heap.size ≤ wr.heap.size := b6.size
      by_cases hlt : k < ps.length
      · obtain ⟨p, hp⟩ : ∃ y, ps[k]? = some y := ⟨_, List.getElem?_eq_getElem hlt⟩
        obtain ⟨ad, rfl, hc0, hc1, hc2⟩ := HC.out k p hp
        have c0 := cell_below B6 (World.block_lt_of_cell? w _ hc0) hc0
        have c1 := cell_below B6 (World.block_lt_of_cell? w _ hc1) hc1
        have c2 := cell_below B6 (World.block_lt_of_cell? w _ hc2) hc2
        have hpo : p.ok := ⟨HGD.out p (List.mem_of_getElem? hp), HN3.out p (List.mem_of_getElem? hp)⟩
        have hdr := partsB_drop hp
        have hsl := slen hpo
        have hpg := hpo.1
        have HDR := Lib.hid hdr
        obtain ⟨t, n, s⟩ := p
        simp only at c0 c1 c2
        clear hp hc0 hc1 hc2 hdr
        have BW := (B6.alloc B6.size (.cells #[.bool t, .int .i64 n, .string s] 33)).drew
        have bW := (b6.alloc b6.size (.cells #[.bool t, .int .i64 n, .string s] 33)).drew
        have hRW := rd_keep HR6.out ((Below.refl _ wr).alloc (Nat.le_refl _) (.cells #[.bool t, .int .i64 n, .string s] 33)).drew
        have HRW := Lib.hid hRW
        clear hRW
        cases t with
        | true =>
          have hrd : rStr (partsB (ps.drop k) ++ [120]) false = (s.data.toList, partsB (ps.drop (k + 1)) ++ [120], false) := by
            rw [HDR.out, List.append_assoc]
            exact rStr_put s.data.toList _ (by simp only at hsl; omega) false
          have HCL := Lib.hid ((rd_str (HG.out.below HG.out.sz BW) HRW.out).mono (R' := RdPost 51 (fun k => w4.heap.size ≤ k ∧ k < R) _ R (.string s) (partsB (ps.drop (k + 1)) ++ [120]) false) (by
            rintro e w' ⟨he, hr, hg⟩
            rw [hrd] at he hr
            rw [he]
            exact ⟨by simp only [ba_eta], hr, hg⟩))
          clear hrd HRW
          go_wp2
          first
          | go_region_with (go_at_call 19; refine (HCL.out).mono ?_; rintro e w7 ⟨rfl, r7, g7⟩; have q0 := copy_at g7 hRwr 0 _ rfl; have q1 := copy_at g7 hRwr 1 _ rfl; have q2 := copy_at g7 hRwr 2 _ rfl; have b7 := bW.grown g7 (by have := bW.size; omega) (by intro k hk; injection hk with hk; omega); have hs7 := g7.size; have R7 := Lib.hid r7; clear r7)
          | fail
          all_goals
            go_wp2
            all_goals go_roundw
            all_goals first | (exact ⟨k + 1, by omega, by go_num, b7, by simp [World.drew] at hs7; omega, R7⟩) | (simp [intOf]; omega)
        | false =>
          have hrd : rNum (partsB (ps.drop k) ++ [120]) false = (n, partsB (ps.drop (k + 1)) ++ [120], false) := by
            rw [HDR.out, List.append_assoc]
            exact rNum_put n hpg.1 hpg.2 _ false
          have HCL := Lib.hid ((rd_num (HG.out.below HG.out.sz BW) HRW.out).mono (R' := RdPost 51 (fun k => w4.heap.size ≤ k ∧ k < R) _ R (.int .i64 n) (partsB (ps.drop (k + 1)) ++ [120]) false) (by
            rintro e w' ⟨he, hr, hg⟩
            rw [hrd] at he hr
            rw [he]
            exact ⟨rfl, hr, hg⟩))
          clear hrd HRW
          go_wp2
          first
          | go_region_with (go_at_call 17; refine (HCL.out).mono ?_; rintro e w7 ⟨rfl, r7, g7⟩; have q0 := copy_at g7 hRwr 0 _ rfl; have q1 := copy_at g7 hRwr 1 _ rfl; have q2 := copy_at g7 hRwr 2 _ rfl; have b7 := bW.grown g7 (by have := bW.size; omega) (by intro k hk; injection hk with hk; omega); have hs7 := g7.size; have R7 := Lib.hid r7; clear r7)
          | fail
          all_goals
            go_wp2
            all_goals go_roundw
            all_goals first | (exact ⟨k + 1, by omega, by go_num, b7, by simp [World.drew] at hs7; omega, R7⟩) | (simp [intOf]; omega)
      · have hend : partsB (ps.drop k) ++ [120] = [120] := by rw [List.drop_eq_nil_of_le (by omega)]; rfl
        rw [hend] at HR6
        clear hend
        have htk : ∀ m, m ≤ (partsB ps).length → RB w2 (.slice Ax m cx) ((partsB ps).take m) := fun m hm => rb_take (ob_rb OX.out) rfl m hm
        have HTK := Lib.hid htk
        obtain ⟨q, hqd, hq5⟩ : ∃ q : Nat, Int.tdiv ((partsB ps).length : Int) 40 = (q : Int) ∧ q ≤ 500 := ⟨(partsB ps).length / 40, by rw [Int.tdiv_eq_ediv_of_nonneg (by omega)]; rfl, by omega⟩
        clear htk
        go_wp2_with (first
          | (go_at_call 20; refine (rd_bad HR6.out).mono ?_; rintro e w6 ⟨rfl, rfl⟩)
          | (go_at_call 21; refine (rd_left HR6.out).mono ?_; rintro e w6 ⟨rfl, rfl⟩)
          | (go_at_call 22; refine (rd_end HR6.out).mono ?_; rintro e w6 ⟨rfl, rfl⟩))
        go_loopw [8] (fun i wr' => ∃ m : Nat, m ≤ 20600 ∧ i = .int .i64 m ∧ Below w2.heap.size w2 wr') (fun i _ => (partsB ps).length - (intOf i).toNat)
        case atStart => exact ⟨0, by omega, rfl, b6⟩
        case round =>
          obtain ⟨m, hm, rfl, b7⟩ := hrel
          by_cases hml : m < (partsB ps).length
          · have HNW := Lib.hid (rd_new (rb_below (HTK.out m (by omega)) b7) (by rw [List.length_take]; omega))
            have hws' : w2.heap.size ≤ wr.heap.size := b7.size
            obtain ⟨N8, hN8⟩ : ∃ n, n = wr.heap.size := ⟨_, rfl⟩
            go_wp2_with (go_at_call 16; refine (HNW.out).mono ?_; rintro e w8 ⟨Q, rfl, hQs, hr8, b8⟩; have b28 := b7.trans (b8.mono b7.size); rw [← hN8] at hr8 hQs; have HQ8 := Lib.hid hr8; clear hr8)
            have hQlt := rd_lt HQ8.out
            go_loopw [82] (fun i w9 => ∃ k : Nat, k ≤ ps.length ∧ i = .int .i64 k ∧ Below w2.heap.size w2 w9 ∧ Q < w9.heap.size ∧ ∃ l4 bd, Hid (Rd 51 (fun k => N8 ≤ k ∧ k < Q) w9 Q l4 bd) ∧ Hid (bd = true ∨ ∃ q : List UInt8, q ≠ [] ∧ l4 ++ q = partsB (ps.drop k))) (fun i _ => ps.length - (intOf i).toNat)
            case atStart => exact ⟨0, Nat.zero_le _, rfl, b28, hQlt, (partsB ps).take m, false, HQ8, Lib.hid (.inr ⟨(partsB ps).drop m, by intro he; have := congrArg List.length he; rw [List.length_drop, List.length_nil] at this; omega, by simp⟩)⟩
            case round =>
              obtain ⟨k2, hk2, rfl, b9, hQw, l4, bd, HQ9, HD⟩ := hrel
              clear HQ8 HNW
              have B9 := B2.trans (b9.mono B2.size)
              have hws9 : w2.heap.size ≤ wr.heap.size := b9.size
              by_cases hlt2 : k2 < ps.length
              · obtain ⟨p, hp⟩ : ∃ y, ps[k2]? = some y := ⟨_, List.getElem?_eq_getElem hlt2⟩
                obtain ⟨ad, rfl, hc0, hc1, hc2⟩ := HC.out k2 p hp
                have c0 := cell_below B9 (World.block_lt_of_cell? w _ hc0) hc0
                have c1 := cell_below B9 (World.block_lt_of_cell? w _ hc1) hc1
                have c2 := cell_below B9 (World.block_lt_of_cell? w _ hc2) hc2
                have hpo : p.ok := ⟨HGD.out p (List.mem_of_getElem? hp), HN3.out p (List.mem_of_getElem? hp)⟩
                have hnext : (readP p l4 bd).2 = true ∨ ∃ q : List UInt8, q ≠ [] ∧ (readP p l4 bd).1 ++ q = partsB (ps.drop (k2 + 1)) := by
                  have hdr := partsB_drop hp
                  rcases HD.out with rfl | ⟨q, hq, he⟩
                  · exact .inl (readP_stays p l4)
                  · cases bd with
                    | true => exact .inl (readP_stays p l4)
                    | false =>
                      rw [hdr] at he
                      rcases readP_short hpo hq he with ⟨l', _, h2, h3⟩ | h
                      · exact .inr ⟨q, hq, by rw [h3]; exact h2⟩
                      · exact .inl h
                have HNX := Lib.hid hnext
                obtain ⟨t, n, s⟩ := p
                simp only at c0 c1 c2
                clear hp hc0 hc1 hc2 hnext
                have BW := B9.alloc B9.size (.cells #[.bool t, .int .i64 n, .string s] 33)
                have bW := b9.alloc b9.size (.cells #[.bool t, .int .i64 n, .string s] 33)
                have HRW := Lib.hid (rd_keep HQ9.out ((Below.refl _ wr).alloc (Nat.le_refl _) (.cells #[.bool t, .int .i64 n, .string s] 33)))
                have hsW : wr.heap.size ≤ (wr.alloc (.cells #[.bool t, .int .i64 n, .string s] 33)).heap.size := ((Below.refl _ wr).alloc (Nat.le_refl _) _).size
                cases t with
                | true =>
                  have HCL := Lib.hid (rd_str (HG.out.below HG.out.sz BW) HRW.out)
                  obtain ⟨s1, r1, d1, hd1⟩ : ∃ s r b, rStr l4 bd = (s, r, b) := ⟨_, _, _, rfl⟩
                  rw [hd1] at HCL
                  have HNY : Hid (d1 = true ∨ ∃ q : List UInt8, q ≠ [] ∧ r1 ++ q = partsB (ps.drop (k2 + 1))) := by
                    have := HNX.out
                    simp only [readP, if_true, hd1] at this
                    exact Lib.hid this
                  clear hd1 HNX
                  go_wp2_with (go_at_call 19; refine (HCL.out).mono ?_; rintro e w7 ⟨rfl, r7, g7⟩; have b10 := bW.grown g7 (by omega) (by intro k hk; injection hk with hk; omega); have hs7 := g7.size; have R7 := Lib.hid r7; clear r7)
                  go_roundw
                  case rel => exact ⟨k2 + 1, by omega, by go_num, b10, by omega, r1, d1, R7, HNY⟩
                  case measure => simp [intOf]; omega
                | false =>
                  have HCL := Lib.hid (rd_num (HG.out.below HG.out.sz BW) HRW.out)
                  obtain ⟨s1, r1, d1, hd1⟩ : ∃ s r b, rNum l4 bd = (s, r, b) := ⟨_, _, _, rfl⟩
                  rw [hd1] at HCL
                  have HNY : Hid (d1 = true ∨ ∃ q : List UInt8, q ≠ [] ∧ r1 ++ q = partsB (ps.drop (k2 + 1))) := by
                    have := HNX.out
                    simp only [readP, Bool.false_eq_true, if_false, hd1] at this
                    exact Lib.hid this
                  clear hd1 HNX
                  go_wp2_with (go_at_call 17; refine (HCL.out).mono ?_; rintro e w7 ⟨rfl, r7, g7⟩; have b10 := bW.grown g7 (by omega) (by intro k hk; injection hk with hk; omega); have hs7 := g7.size; have R7 := Lib.hid r7; clear r7)
                  go_roundw
                  case rel => exact ⟨k2 + 1, by omega, by go_num, b10, by omega, r1, d1, R7, HNY⟩
                  case measure => simp [intOf]; omega
              · have hbd : bd = true := by
                  rcases HD.out with h | ⟨q, hq, he⟩
                  · exact h
                  · rw [List.drop_eq_nil_of_le (by omega)] at he
                    exact (hq (List.append_eq_nil_iff.1 he).2).elim
                subst hbd
                go_wp2_with (first
                  | (go_at_call 20; refine (rd_bad HQ9.out).mono ?_; rintro e w6 ⟨rfl, rfl⟩)
                  | (go_at_call 22; refine (rd_end HQ9.out).mono ?_; rintro e w6 ⟨rfl, rfl⟩))
                go_roundw
                case rel => exact ⟨m + (1 + q), by omega, by go_num, b9⟩
                case measure => simp [intOf]; omega
          · go_wp2
            go_ret
            exact ⟨rfl, B2.trans (b7.mono B2.size)⟩
end Go.Proofs.YtndklgbjpdlegaaDoor
