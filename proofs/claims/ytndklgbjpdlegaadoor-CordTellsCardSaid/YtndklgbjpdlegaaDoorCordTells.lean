/- CordTells: two lists of parts have the same bytes just if they are the same. -/
import Derived.Test.YtndklgbjpdlegaaDoorCordT
import Derived.Deep.RegionWith
import Derived.BigRegion
namespace Go.Proofs.YtndklgbjpdlegaaDoor
open Go Go.RowKit
set_option linter.unusedSimpArgs false
set_option linter.unusedVariables false

theorem bl_iff (a b : ByteArray) : a = b ↔ a.toList = b.toList :=
  ⟨fun h => by rw [h], fun h => ba_eq (by rw [← ByteArray.toList_eq, ← ByteArray.toList_eq]; exact h)⟩

set_option maxRecDepth 100000 in
set_option maxHeartbeats 4000000 in
theorem cordTells_c {w : World} {v v' : Value} {ps qs : List Prt} (hG : G w) (h : RP w v ps) (h' : RP w v' qs) (hg : ∀ p ∈ ps, p.good) (hg' : ∀ p ∈ qs, p.good) (hl : ps.length ≤ 140737488351232) (hl' : qs.length ≤ 140737488351232) :
    Calls Tryd.prog 4 #[v, v'] w fun e w' => e = .returned (.bool true) ∧ Below w.heap.size w w' := by
  have HG := Lib.hid hG
  have HGD := Lib.hid hg
  have HGD' := Lib.hid hg'
  have HP := Lib.hid h
  have HP' := Lib.hid h'
  obtain ⟨A, c, rfl, hnc, hcell⟩ := parts_at h
  obtain ⟨A', c', rfl, hnc', hcell'⟩ := parts_at h'
  have HC := Lib.hid hcell
  have HC' := Lib.hid hcell'
  clear h hG hg hcell h' hg' hcell'
  go_enter Tryd.func4, Tryd.ntmps4
  go_wp2_with (go_at_call 10; refine (wakes_c HG.out).mono ?_; rintro e w1 ⟨rfl, b1⟩)
  refine (put_c (HG.out.below HG.out.sz b1) (rc_below HP.out b1) HGD.out hl).mono ?_
  rintro e w2 ⟨b2, hx⟩
  have B2 := b1.trans (b2.mono b1.size)
  rcases hx with rfl | ⟨x, rfl, ox, hn1, hn2, hn3⟩
  · go_wp2_with fail
    refine (put_c (HG.out.below HG.out.sz B2) (rc_below HP'.out B2) HGD'.out hl').mono ?_
    rintro e w3 ⟨b3, hy⟩
    have B3 := B2.trans (b3.mono B2.size)
    rcases hy with rfl | ⟨y, rfl, oy, hm1, hm2, hm3⟩
    all_goals
      go_wp2
      go_ret
      exact ⟨rfl, B3⟩
  · have OX := Lib.hid ox
    clear ox
    go_wp2_with fail
    refine (put_c (HG.out.below HG.out.sz B2) (rc_below HP'.out B2) HGD'.out hl').mono ?_
    rintro e w3 ⟨b3, hy⟩
    have B3 := B2.trans (b3.mono B2.size)
    rcases hy with rfl | ⟨y, rfl, oy, hm1, hm2, hm3⟩
    · go_wp2
      go_ret
      exact ⟨rfl, B3⟩
    · have OX3 := Lib.hid (own_below OX.out b3)
      have OY := Lib.hid oy
      clear oy
      go_wp2_with fail
      go_loopw [9, 10] (fun x i wr => ∃ k : Nat, k ≤ ps.length ∧ k ≤ qs.length ∧ i = .int .i64 k ∧ x = .bool (decide (ps.length = qs.length) && allS (ps.take k) (qs.take k)) ∧ Below w3.heap.size w3 wr) (fun _ i _ => ps.length - (intOf i).toNat)
      case atStart => exact ⟨0, Nat.zero_le _, Nat.zero_le _, rfl, by simp only [List.take_zero, allS, Bool.and_true]; by_cases h : ps.length = qs.length <;> simp [h] <;> omega, Below.refl _ _⟩
      case round =>
        obtain ⟨k, hk, hk', rfl, rfl, b4⟩ := hrel
        by_cases hlt : k < ps.length ∧ k < qs.length
        · obtain ⟨hk1, hk2⟩ := hlt
          obtain ⟨p, hp⟩ : ∃ y, ps[k]? = some y := ⟨_, List.getElem?_eq_getElem hk1⟩
          obtain ⟨q, hq⟩ : ∃ y, qs[k]? = some y := ⟨_, List.getElem?_eq_getElem hk2⟩
          obtain ⟨ad, rfl, hc0, hc1, hc2⟩ := HC.out k p hp
          obtain ⟨ad', rfl, hd0, hd1, hd2⟩ := HC'.out k q hq
          have B4 := B3.trans (b4.mono B3.size)
          have c0 := cell_below B4 (World.block_lt_of_cell? w _ hc0) hc0
          have c1 := cell_below B4 (World.block_lt_of_cell? w _ hc1) hc1
          have c2 := cell_below B4 (World.block_lt_of_cell? w _ hc2) hc2
          have d0 := cell_below B4 (World.block_lt_of_cell? w _ hd0) hd0
          have d1 := cell_below B4 (World.block_lt_of_cell? w _ hd1) hd1
          have d2 := cell_below B4 (World.block_lt_of_cell? w _ hd2) hd2
          have htp : ps.take (k + 1) = ps.take k ++ [p] := by rw [List.take_add_one, hp]; rfl
          have htq : qs.take (k + 1) = qs.take k ++ [q] := by rw [List.take_add_one, hq]; rfl
          have hts : (decide (ps.length = qs.length) && allS (ps.take (k + 1)) (qs.take (k + 1))) = (decide (ps.length = qs.length) && allS (ps.take k) (qs.take k) && psame p q) := by
            rw [htp, htq, allS_snoc _ _ _ _ (by rw [List.length_take, List.length_take]; omega), Bool.and_assoc]
          obtain ⟨s0, hs0⟩ : ∃ s0, (decide (ps.length = qs.length) && allS (ps.take k) (qs.take k)) = s0 := ⟨_, rfl⟩
          rw [hs0] at hts ⊢
          have HTS := Lib.hid hts
          obtain ⟨tp, np, sp⟩ := p
          obtain ⟨tq, nq, sq⟩ := q
          simp only at c0 c1 c2 d0 d1 d2
          clear hs0
          have fr : ∀ (a : Addr) (u : Value), wr.cell? a = some u → (∀ o, (wr.alloc o).cell? a = some u) ∧ (∀ o o', ((wr.alloc o).alloc o').cell? a = some u) ∧ a.block ≠ wr.heap.size ∧ a.block ≠ wr.heap.size + 1 := by
            intro a u ha
            have hlt := World.block_lt_of_cell? wr _ ha
            have h1 : ∀ o, (wr.alloc o).cell? a = some u := fun o => cell_below ((Below.refl _ wr).alloc (Nat.le_refl _) o) hlt ha
            refine ⟨h1, fun o o' => cell_below ((Below.refl _ (wr.alloc o)).alloc (Nat.le_refl _) o') (World.block_lt_of_cell? _ _ (h1 o)) (h1 o), by omega, by omega⟩
          obtain ⟨p01, p02, p03, p04⟩ := fr _ _ c0
          obtain ⟨p11, p12, p13, p14⟩ := fr _ _ c1
          obtain ⟨p21, p22, p23, p24⟩ := fr _ _ c2
          obtain ⟨q01, q02, q03, q04⟩ := fr _ _ d0
          obtain ⟨q11, q12, q13, q14⟩ := fr _ _ d1
          obtain ⟨q21, q22, q23, q24⟩ := fr _ _ d2
          clear hp hq hc0 hc1 hc2 hd0 hd1 hd2 hts htp htq fr
          go_wp2
          go_region
          all_goals
            cases s0 <;> cases tp <;> cases tq
            all_goals
              go_wp2
              all_goals go_roundw
              all_goals first | (exact ⟨k + 1, by omega, by omega, by go_num, by rw [HTS.out]; first | rfl | (simp [psame]; done) | (simp [psame, bl_iff]; done) | (rename_i hz; simp [psame, bl_iff, hz]; done), b4.trans ((((Below.refl _ wr).alloc (Nat.le_refl _) _).alloc (by show wr.heap.size ≤ (wr.heap.push _).size; rw [Array.size_push]; omega) _).drew.mono b4.size)⟩) | (simp [intOf]; omega)
        · have hd : (decide (ps.length = qs.length) && allS (ps.take k) (qs.take k)) = decide (partsB ps = partsB qs) := by
            have hpe := parts_eq ps qs (fun p hp => ⟨HGD.out p hp, hn3 p hp⟩) (fun p hp => ⟨HGD'.out p hp, hm3 p hp⟩)
            by_cases he : ps.length = qs.length
            · rw [List.take_of_length_le (by omega), List.take_of_length_le (by omega)]
              rw [Bool.eq_iff_iff]
              simp [hpe, he]
            · have : ¬ partsB ps = partsB qs := fun h => he (hpe.1 h).1
              simp [he, this]
          have HD := Lib.hid hd
          have hcx := rb_string (ob_rb (own_below OX3.out b4))
          have hcy := rb_string (ob_rb (own_below OY.out b4))
          clear hd
          go_wp2
          all_goals
            go_ret
            exact ⟨by rw [HD.out]; by_cases h : partsB ps = partsB qs <;> simp [h], B3.trans (b4.mono B3.size)⟩
end Go.Proofs.YtndklgbjpdlegaaDoor
