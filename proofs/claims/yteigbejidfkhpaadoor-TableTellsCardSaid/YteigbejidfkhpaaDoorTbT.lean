/- Layer 15: the reference's sameness of methods. -/
import Derived.Test.YteigbejidfkhpaaDoorTbQ
import Derived.Test.YteigbejidfkhpaaDoorTbH
import Derived.BigQuiet
import Derived.Deep.QuietTactic
namespace Go.Proofs.YteigbejidfkhpaaDoor
open Go Go.RowKit Go.Sort
set_option linter.unusedSimpArgs false
set_option linter.unusedVariables false

theorem ri_at {w : World} {v : Value} {ts : List Int} (h : RI w v ts) : ∃ A c, v = .slice A ts.length c ∧ ts.length ≤ c ∧ ∀ j y, ts[j]? = some y → ∃ a, A = some a ∧ w.cell? (a.add j) = some (.int .i64 y) := by
  obtain ⟨A, c, rfl, h1, h2, h3, h4, h5⟩ := h
  exact ⟨A, c, rfl, h1, fun j y hy => h5 j _ (by rw [List.getElem?_map, hy]; rfl)⟩
theorem take_next {X : Type} {xs ys : List X} {k : Nat} {x y : X} (hx : xs[k]? = some x) (hy : ys[k]? = some y) (h : xs.take k = ys.take k) (e : x = y) : xs.take (k + 1) = ys.take (k + 1) := by
  rw [List.take_add_one, List.take_add_one, hx, hy, h, e]
theorem take_all {X : Type} {xs ys : List X} (h : xs.take xs.length = ys.take xs.length) (hl : xs.length = ys.length) : xs = ys := by
  rwa [List.take_of_length_le (Nat.le_refl _), List.take_of_length_le (by omega)] at h
def SamePost (w : World) (m m' : Mth) (e : Ending) (w' : World) : Prop := ∃ b : Bool, e = .returned (.bool b) ∧ (b = true ↔ m = m') ∧ Below w.heap.size w w'
theorem same_no {w w' : World} {m m' : Mth} (h : m ≠ m') (b : Below w.heap.size w w') : SamePost w m m' (.returned (.bool false)) w' := ⟨false, rfl, ⟨(fun h => by cases h), fun e => absurd e h⟩, b⟩
theorem str_beq {a b : ByteArray} (h : a ≠ b) : (a.toList == b.toList) = false := by
  have hc : a.toList ≠ b.toList := fun e => h (by
    rw [ByteArray.toList_eq, ByteArray.toList_eq] at e
    exact ByteArray.ext (Array.toList_inj.1 e))
  exact beq_eq_false_iff_ne.2 hc

set_option maxRecDepth 100000 in
set_option maxHeartbeats 4000000 in
theorem methSame_c {w : World} (m m' : Mth) {vn vt vp vn' vt' vp' : Value} (hn : RI w vn m.ns) (ht : RS w vt m.ts) (hp : RPr w vp m.ps) (hn' : RI w vn' m'.ns) (ht' : RS w vt' m'.ts) (hp' : RPr w vp' m'.ps)
    (hnl : m.ns.length ≤ 140737488351232) (htl : m.ts.length ≤ 140737488351232) :
    Calls Tryd.prog 12 #[.agg #[.int .i64 m.c, .int .i64 m.i, vn, vt, vp], .agg #[.int .i64 m'.c, .int .i64 m'.i, vn', vt', vp']] w (SamePost w m m') := by
  obtain ⟨c, i, ns, ts, ps⟩ := m
  obtain ⟨c', i', ns', ts', ps'⟩ := m'
  dsimp only at hn ht hp hn' ht' hp' hnl htl ⊢
  obtain ⟨An, cn, rfl, hn1, hnc⟩ := ri_at hn
  obtain ⟨At, ct, rfl, ht1, _, htc⟩ := rs_at ht
  obtain ⟨Ap, cp, rfl, hp1⟩ := rc_form hp
  obtain ⟨An', cn', rfl, hn1', hnc'⟩ := ri_at hn'
  obtain ⟨At', ct', rfl, ht1', _, htc'⟩ := rs_at ht'
  obtain ⟨Ap', cp', rfl, hp1'⟩ := rc_form hp'
  have HNC := Lib.hid hnc
  have HTC := Lib.hid htc
  have HNC' := Lib.hid hnc'
  have HTC' := Lib.hid htc'
  have HP := Lib.hid hp
  have HP' := Lib.hid hp'
  have hnlI : (ns.length : Int) ≤ 140737488351232 := by omega
  have htlI : (ts.length : Int) ≤ 140737488351232 := by omega
  have b1 := (Below.refl w.heap.size w).alloc (Nat.le_refl _) (.cells #[.int .i64 c, .int .i64 i, .slice An ns.length cn, .slice At ts.length ct, .slice Ap ps.length cp] 26)
  have bW := Lib.hid (b1.alloc b1.size (.cells #[.int .i64 c', .int .i64 i', .slice An' ns'.length cn', .slice At' ts'.length ct', .slice Ap' ps'.length cp'] 26))
  clear hn ht hp hn' ht' hp' hnc htc hnc' htc' b1 hnl htl
  by_cases h1 : c = c'
  · subst h1
    by_cases h2 : i = i'
    · subst h2
      by_cases h3 : ns.length = ns'.length
      · have HL := Lib.hid h3
        rw [← h3] at hn1' bW ⊢
        clear h3
        by_cases h4 : ts.length = ts'.length
        · have HL4 := Lib.hid h4
          rw [← h4] at ht1' bW ⊢
          clear h4
          have hM1 := mb_new w c i (.slice An ns.length cn) (.slice At ts.length ct) (.slice Ap ps.length cp)
          obtain ⟨w1, hw1⟩ : ∃ w1, w1 = w.alloc (.cells #[.int .i64 c, .int .i64 i, .slice An ns.length cn, .slice At ts.length ct, .slice Ap ps.length cp] 26) := ⟨_, rfl⟩
          have hM2 := mb_new w1 c i (.slice An' ns.length cn') (.slice At' ts.length ct') (.slice Ap' ps'.length cp')
          have hs1 : w1.heap.size = w.heap.size + 1 := by rw [hw1]; exact Array.size_push _
          rw [← hw1] at hM1
          have hM1 := mb_keeps hM1 (keepsO_alloc w1 (.cells #[.int .i64 c, .int .i64 i, .slice An' ns.length cn', .slice At' ts.length ct', .slice Ap' ps'.length cp'] 26))
          rw [hs1] at hM2
          rw [hw1] at hM1 hM2
          have HM1 := Lib.hid hM1
          have HM2 := Lib.hid hM2
          clear hs1 hM1 hM2 hw1
          go_enter Tryd.func12, Tryd.ntmps12
          go_wp2_with fail
          go_loopw [40, 5] (fun x _y wr => ∃ k : Nat, k ≤ ns.length ∧ x = .int .i64 k ∧ Hid (ns.take k = ns'.take k) ∧ Hid (Below ((w.alloc (.cells #[.int .i64 c, .int .i64 i, .slice An ns.length cn, .slice At ts.length ct, .slice Ap ps.length cp] 26)).alloc (.cells #[.int .i64 c, .int .i64 i, .slice An' ns.length cn', .slice At' ts.length ct', .slice Ap' ps'.length cp'] 26)).heap.size ((w.alloc (.cells #[.int .i64 c, .int .i64 i, .slice An ns.length cn, .slice At ts.length ct, .slice Ap ps.length cp] 26)).alloc (.cells #[.int .i64 c, .int .i64 i, .slice An' ns.length cn', .slice At' ts.length ct', .slice Ap' ps'.length cp'] 26)) wr)) (fun x _ _ => ns.length - (intOf x).toNat)
          case atStart => exact ⟨0, Nat.zero_le _, rfl, Lib.hid rfl, Lib.hid (Below.refl _ _)⟩
          case round =>
            obtain ⟨k, hk, rfl, HT, HB⟩ := hrel
            obtain ⟨_, _, m2, m3, m4⟩ := mb_facts (mb_keeps HM1.out (keepsO_below HB.out))
            obtain ⟨_, _, m2', m3', m4'⟩ := mb_facts (mb_keeps HM2.out (keepsO_below HB.out))
            by_cases hlt : k < ns.length
            · obtain ⟨x, hx⟩ : ∃ x, ns[k]? = some x := ⟨_, List.getElem?_eq_getElem hlt⟩
              obtain ⟨y, hy⟩ : ∃ y, ns'[k]? = some y := ⟨_, List.getElem?_eq_getElem (by have := HL.out; omega)⟩
              obtain ⟨a, rfl, q0⟩ := HNC.out k x hx
              obtain ⟨a', rfl, q0'⟩ := HNC'.out k y hy
              have p0 := cell_below (bW.out.trans (HB.out.mono bW.out.size)) (World.block_lt_of_cell? w _ q0) q0
              have p0' := cell_below (bW.out.trans (HB.out.mono bW.out.size)) (World.block_lt_of_cell? w _ q0') q0'
              have HX := Lib.hid hx
              have HY := Lib.hid hy
              have hkI : (k : Int) < ns.length := by omega
              clear q0 q0' hx hy
              by_cases hxy : x = y
              · have hnx := Lib.hid (take_next HX.out HY.out HT.out hxy)
                subst hxy
                go_wp2_with fail
                go_quiet (fail)
                go_wp2_with fail
                go_roundw
                case rel => exact ⟨k + 1, hlt, by go_num, hnx, Lib.hid (HB.out.trans (below_drewN _ _ |>.mono HB.out.size))⟩
                case measure => exact round_less1 hlt
              · have HXY := Lib.hid hxy
                clear hxy
                have hxyb : (x == y) = false := beq_eq_false_iff_ne.2 HXY.out
                go_wp2_with fail
                go_quiet (fail)
                go_wp2_with fail
                go_ret
                exact same_no (fun e => HXY.out (by injection e with _ _ e; have h1 := HX.out; have h2 := HY.out; rw [e, h2] at h1; injection h1 with h1; exact h1.symm)) (bW.out.trans ((HB.out.trans (below_drewN _ _ |>.mono HB.out.size)).mono bW.out.size))
            · have hk2 : k = ns.length := by omega
              subst hk2
              have HNS := Lib.hid (take_all HT.out HL.out)
              clear hlt hk
              go_wp2_with fail
              go_loopw [58, 6] (fun x _y wr => ∃ k : Nat, k ≤ ts.length ∧ x = .int .i64 k ∧ Hid (ts.take k = ts'.take k) ∧ Hid (Below ((w.alloc (.cells #[.int .i64 c, .int .i64 i, .slice An ns.length cn, .slice At ts.length ct, .slice Ap ps.length cp] 26)).alloc (.cells #[.int .i64 c, .int .i64 i, .slice An' ns.length cn', .slice At' ts.length ct', .slice Ap' ps'.length cp'] 26)).heap.size ((w.alloc (.cells #[.int .i64 c, .int .i64 i, .slice An ns.length cn, .slice At ts.length ct, .slice Ap ps.length cp] 26)).alloc (.cells #[.int .i64 c, .int .i64 i, .slice An' ns.length cn', .slice At' ts.length ct', .slice Ap' ps'.length cp'] 26)) wr)) (fun x _ _ => ts.length - (intOf x).toNat)
              case atStart => exact ⟨0, Nat.zero_le _, rfl, Lib.hid rfl, HB⟩
              case round =>
                clear HB m2 m3 m4 m2' m3' m4'
                obtain ⟨k, hk, rfl, HT2, HB⟩ := hrel
                obtain ⟨_, _, m2, m3, m4⟩ := mb_facts (mb_keeps HM1.out (keepsO_below HB.out))
                obtain ⟨_, _, m2', m3', m4'⟩ := mb_facts (mb_keeps HM2.out (keepsO_below HB.out))
                by_cases hlt : k < ts.length
                · obtain ⟨x, hx⟩ : ∃ x, ts[k]? = some x := ⟨_, List.getElem?_eq_getElem hlt⟩
                  obtain ⟨y, hy⟩ : ∃ y, ts'[k]? = some y := ⟨_, List.getElem?_eq_getElem (by have := HL4.out; omega)⟩
                  obtain ⟨a, rfl, q0⟩ := HTC.out k x hx
                  obtain ⟨a', rfl, q0'⟩ := HTC'.out k y hy
                  have p0 := cell_below (bW.out.trans (HB.out.mono bW.out.size)) (World.block_lt_of_cell? w _ q0) q0
                  have p0' := cell_below (bW.out.trans (HB.out.mono bW.out.size)) (World.block_lt_of_cell? w _ q0') q0'
                  have HX := Lib.hid hx
                  have HY := Lib.hid hy
                  have hkI : (k : Int) < ts.length := by omega
                  clear q0 q0' hx hy
                  by_cases hxy : x = y
                  · have hnx := Lib.hid (take_next HX.out HY.out HT2.out hxy)
                    subst hxy
                    go_wp2_with fail
                    go_quiet (fail)
                    go_wp2_with fail
                    go_roundw
                    case rel => exact ⟨k + 1, hlt, by go_num, hnx, Lib.hid (HB.out.trans (below_drewN _ _ |>.mono HB.out.size))⟩
                    case measure => exact round_less1 hlt
                  · have HXY := Lib.hid hxy
                    have hxyb := str_beq hxy
                    clear hxy
                    go_wp2_with fail
                    go_quiet (fail)
                    go_wp2_with fail
                    go_ret
                    exact same_no (fun e => HXY.out (by injection e with _ _ _ e; have h1 := HX.out; have h2 := HY.out; rw [e, h2] at h1; injection h1 with h1; exact h1.symm)) (bW.out.trans ((HB.out.trans (below_drewN _ _ |>.mono HB.out.size)).mono bW.out.size))
                · have hk2 : k = ts.length := by omega
                  subst hk2
                  have HTS := Lib.hid (take_all HT2.out HL4.out)
                  have bX := Lib.hid (bW.out.trans (HB.out.mono bW.out.size))
                  have HSA := Lib.hid (sameAll_c (rc_below HP.out bX.out) (rc_below HP'.out bX.out))
                  clear hlt hk
                  go_wp2_with fail
                  refine (HSA.out).mono ?_
                  rintro e w9 ⟨b, rfl, hb, b9⟩
                  go_wp2_with fail
                  go_ret
                  exact ⟨b, rfl, ⟨fun h => by rw [HNS.out, HTS.out, hb.1 h], fun e => hb.2 (by injection e)⟩, bX.out.trans (b9.mono bX.out.size)⟩
        · have hne : ((ts.length : Int) == (ts'.length : Int)) = false := beq_eq_false_iff_ne.2 (by omega)
          have hne2 : (ts.length == ts'.length) = false := beq_eq_false_iff_ne.2 h4
          have HE := Lib.hid (show (⟨c, i, ns, ts, ps⟩ : Mth) ≠ ⟨c, i, ns', ts', ps'⟩ from fun e => h4 (by injection e with _ _ _ e; rw [e]))
          clear h4
          go_enter Tryd.func12, Tryd.ntmps12
          go_wp2_with fail
          go_ret
          exact same_no HE.out bW.out
      · have hne : ((ns.length : Int) == (ns'.length : Int)) = false := beq_eq_false_iff_ne.2 (by omega)
        have hne2 : (ns.length == ns'.length) = false := beq_eq_false_iff_ne.2 h3
        have HE := Lib.hid (show (⟨c, i, ns, ts, ps⟩ : Mth) ≠ ⟨c, i, ns', ts', ps'⟩ from fun e => h3 (by injection e with _ _ e; rw [e]))
        clear h3
        go_enter Tryd.func12, Tryd.ntmps12
        go_wp2_with fail
        go_ret
        exact same_no HE.out bW.out
    · have hne : (i == i') = false := beq_eq_false_iff_ne.2 h2
      have HE := Lib.hid (show (⟨c, i, ns, ts, ps⟩ : Mth) ≠ ⟨c, i', ns', ts', ps'⟩ from fun e => h2 (by injection e))
      have hne2 : (i != i') = true := by simp [h2]
      go_enter Tryd.func12, Tryd.ntmps12
      go_wp2_with fail
      go_ret
      exact same_no HE.out bW.out
  · have hne : (c == c') = false := beq_eq_false_iff_ne.2 h1
    have HE := Lib.hid (show (⟨c, i, ns, ts, ps⟩ : Mth) ≠ ⟨c', i', ns', ts', ps'⟩ from fun e => h1 (by injection e))
    have hne2 : (c != c') = true := by simp [h1]
    go_enter Tryd.func12, Tryd.ntmps12
    go_wp2_with fail
    go_ret
    exact same_no HE.out bW.out
end Go.Proofs.YteigbejidfkhpaaDoor
