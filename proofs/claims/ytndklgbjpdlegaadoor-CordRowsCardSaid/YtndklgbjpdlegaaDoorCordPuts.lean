/- CordPuts: whatever the bytes, numbers and text: true. -/
import Derived.Test.YtndklgbjpdlegaaDoorCordK
import Derived.Deep.RegionWith
import Derived.BigRegion
namespace Go.Proofs.YtndklgbjpdlegaaDoor
open Go Go.RowKit
set_option linter.unusedSimpArgs false
set_option linter.unusedVariables false

theorem ri_at {w : World} {v : Value} {ns : List Int} (h : RI w v ns) : ∃ A c, v = .slice A ns.length c ∧ ∀ j y, ns[j]? = some y → ∃ a, A = some a ∧ w.cell? (a.add j) = some (.int .i64 y) := by
  obtain ⟨A, c, rfl, _, _, _, _, h5⟩ := h
  exact ⟨A, c, rfl, fun j y hy => h5 j _ (by simp [hy])⟩

set_option maxRecDepth 100000 in
set_option maxHeartbeats 4000000 in
theorem cordPuts_c {w : World} {b li : Value} {l : List UInt8} {ns : List Int} (hG : G w) (hb : RB w b l) (hn : RI w li ns) (hns : I64 ns) (s : ByteArray) (hl : l.length ≤ 140737488351232) (hnl : ns.length ≤ 140737488351232) (hs : s.size ≤ 140737488351232) :
    Calls Tryd.prog 3 #[b, li, .string s] w fun e w' => e = .returned (.bool true) ∧ Below w.heap.size w w' := by
  have HB := Lib.hid hb
  have HN := Lib.hid hn
  have HNS := Lib.hid hns
  have HG := Lib.hid hG
  obtain ⟨A, c, rfl, hnc, hc, _, _, _⟩ := id hb
  obtain ⟨A2, c2, rfl, hcell⟩ := ri_at hn
  have HC := Lib.hid hcell
  clear hb hn hns hG hcell
  by_cases hg : (l.length : Int) + s.size > 8192 ∨ (ns.length : Int) > 500
  · by_cases h1 : (l.length : Int) + s.size > 8192
    all_goals
      go_enter Tryd.func3, Tryd.ntmps3
      go_wp2_with (go_at_call 10; refine (wakes_c HG.out).mono ?_; rintro e w1 ⟨rfl, b1⟩)
      go_ret
      exact ⟨rfl, b1⟩
  · have hg1 : (l.length : Int) + s.size ≤ 8192 := by omega
    have hg2 : (ns.length : Int) ≤ 500 := by omega
    clear hg
    go_enter Tryd.func3, Tryd.ntmps3
    go_wp2_with (first
      | (go_at_call 10; refine (wakes_c HG.out).mono ?_; rintro e w1 ⟨rfl, b1⟩)
      | (at_builtin; refine app_b (w0 := w) (base := w.heap.size) (l := []) (m := l) rfl (.tmp 23) (.tmp 24) rfl rfl rfl (World.ownsRow_made w1 #[] 0 b1.size (Nat.zero_le _) (by simp)) (rc_alloc (rb_below HB.out b1) _) (b1.alloc b1.size _) (by have := b1.size; simp; omega) (by simp; omega) ?_; intro v2 w2 o2 b2 _ _; simp only [List.nil_append] at o2; have O2 := Lib.hid o2; clear o2))
    go_loopw [7, 28] (fun x i wr => ∃ k : Nat, k ≤ ns.length ∧ i = .int .i64 k ∧ Hid (OB wr w.heap.size x (l ++ numsB (ns.take k))) ∧ Below w.heap.size w wr) (fun _ i _ => ns.length - (intOf i).toNat)
    case atStart => exact ⟨0, Nat.zero_le _, rfl, by simpa [numsB, Lib.hid] using O2, b2⟩
    case round =>
      obtain ⟨k, hk, rfl, O3, b3⟩ := hrel
      clear O2 b2 b1
      by_cases hlt : k < ns.length
      · obtain ⟨y, hy⟩ : ∃ y, ns[k]? = some y := ⟨_, List.getElem?_eq_getElem hlt⟩
        obtain ⟨ad, rfl, hc1⟩ := HC.out k y hy
        have hcell := cell_below b3 (World.block_lt_of_cell? w _ hc1) hc1
        have hyb := HNS.out y (List.mem_of_getElem? hy)
        have htl : (numsB (ns.take k)).length ≤ 22 * k := by
          have := numsB_len (ns.take k) (fun n hn => HNS.out n (List.mem_of_mem_take hn))
          have h2 : (ns.take k).length ≤ k := List.length_take_le _ _
          omega
        have hts : ns.take (k + 1) = ns.take k ++ [y] := by rw [List.take_add_one, hy]; rfl
        have HTS := Lib.hid hts
        clear hy hts hc1
        go_wp2_with (go_at_call 11; refine (refNum_c (HG.out.below HG.out.sz b3) (ob_rb O3.out) (by simp; omega) y hyb.1 hyb.2).mono ?_; rintro e w3 ⟨v3, rfl, o3, b4⟩; have O4 := Lib.hid (own_lower o3 b3.size); clear o3)
        go_roundw
        case rel => exact ⟨k + 1, by omega, by go_num, by have := O4.out; refine Lib.hid ?_; rw [HTS.out, numsB_snoc]; simpa [OB, List.append_assoc] using this, b3.trans (b4.mono b3.size)⟩
        case measure => simp [intOf]; omega
      · have hd : ns.take k = ns := List.take_of_length_le (by omega)
        have O5 := O3.out
        rw [hd] at O5
        have HO := Lib.hid O5
        clear O5 O3 hd
        have bd := (Below.refl wr.heap.size wr).drew
        have hcu : ∀ W, Below wr.heap.size wr W → (convert 22 9 u7).run Tryd.prog W = .ok (.string ⟨(l ++ numsB ns).toArray⟩) W := fun W hW => rb_string (rb_below (ob_rb HO.out) hW)
        go_wp2_with fail
        go_region_with (first
          | (go_at_call 12; refine (cordNum_c (l := l) (ns := ns) ?_ ?_ ?_ HNS.out (by omega)).mono ?_; exact (HG.out.below HG.out.sz b3.drew); exact (rb_below HB.out b3.drew); exact (rc_below HN.out b3.drew); rintro e w4 ⟨v4, rfl, o4, b4⟩; have d4 := bd.trans (b4.mono bd.size); have B4 := b3.drew.trans (b4.mono b3.drew.size); have hc4 := rb_string (ob_rb o4))
          | (go_at_call 13; refine (cordStr_c (l := l) ?_ ?_ s (by omega)).mono ?_; exact (HG.out.below HG.out.sz B4); exact (rb_below HB.out B4); rintro e w5 ⟨v5, rfl, o5, b5⟩; have d5 := d4.trans (b5.mono d4.size); have B5 := B4.trans (b5.mono B4.size); have hc5 : ∀ W, Below w5.heap.size w5 W → (convert 22 9 v5).run Tryd.prog W = .ok (.string ⟨(l ++ strB s.data.toList).toArray⟩) W := fun W hW => rb_string (rb_below (ob_rb o5) hW); have r5 := Below.refl w5.heap.size w5)
          | (go_at_call 14; refine (refStr_c (l := l) ?_ ?_ s (by omega)).mono ?_; exact (HG.out.below HG.out.sz B5); exact (rb_below HB.out B5); rintro e w6 ⟨v6, rfl, o6, b6⟩; have B6 := B5.trans (b6.mono B5.size); have hc6 := rb_string (ob_rb o6)))
        all_goals (go_wp2; go_ret; exact ⟨by first | rfl | (simp; done), B6⟩)
end Go.Proofs.YtndklgbjpdlegaaDoor
