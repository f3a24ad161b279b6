/- PropKeeps: the walk. -/
import Derived.Test.YtcehkaombanhaaaGreatDoorPbR
import Derived.Test.YtcehkaombanhaaaGreatDoorPbI
import Derived.Test.YtcehkaombanhaaaGreatDoorOpenP
import Derived.Deep.RegionHeld3
namespace Go.Proofs.YtcehkaombanhaaaGreatDoor
open Go Go.RowKit
open Go.ChangeShapes Go.WideShapes Go.Deep Go.Sort
set_option linter.unusedSimpArgs false
set_option linter.unusedVariables false

def spare : Prp := ⟨⟨#[115, 112, 97, 114, 101]⟩, 0, 0, ByteArray.empty, 0⟩
theorem own_drewP {w : World} {base e s n : Nat} {v : Value} {xs : List Value} (h : w.ownsRow base e s v n xs) : w.drew.ownsRow base e s v n xs := h
/-- What is written over some elements: the row stays the call's own. -/
def OwnAny (w : World) (base : Nat) (v : Value) (n : Nat) : Prop := ∃ xs, w.ownsRow base 32 5 v n xs

set_option maxRecDepth 100000 in
set_option maxHeartbeats 8000000 in
theorem propKeeps_c {w : World} (hG : G w) {v : Value} {ps : List Prp} (p : Prp) (hp : RPr w v ps) (cp : ∀ p ∈ ps, p.came) (cq : p.came) :
    Calls Tryz.prog 4 #[v, .agg #[.string p.nm, .int .i64 p.k, .int .i64 p.n, .string p.t, .float .f64 p.r]] w fun e w' => e = .returned (.bool true) ∧ Below w.heap.size w w' := by
  obtain ⟨W, hW⟩ : ∃ W, W = w.alloc (.cells #[.string p.nm, .int .i64 p.k, .int .i64 p.n, .string p.t, .float .f64 p.r] 32) := ⟨_, rfl⟩
  have b0 : Below w.heap.size w W := by rw [hW]; exact (Below.refl _ _).alloc (Nat.le_refl _) _
  have BX : BoxP W w.heap.size p := by rw [hW]; exact boxP_new w p
  have HW := Lib.hid hW
  have HWK := Lib.hid (wakes_c (hG.below hG.sz b0))
  have hpW := rc_below hp b0
  have HP := Lib.hid (show RPr W v ps from hpW)
  have HL := Lib.hid (fun w1 (b : Below W.heap.size W w1) => long_c (w := w1) (rc_below hpW b) (fun p hp' => ⟨(cp p hp').1, (cp p hp').2.1⟩))
  have HS1 := Lib.hid (fun x hx => (cp x hx).1)
  have HS2 := Lib.hid (fun x hx => (⟨(cp x hx).1, (cp x hx).2.2.1⟩ : x.nm.size ≤ 140737488351232 ∧ x.r < 18446744073709551616))
  have HCQ := Lib.hid cq
  have HB0 := Lib.hid b0
  have HBX := Lib.hid BX
  obtain ⟨A, c, rfl⟩ := rc_anyP hp
  have qs := store_float (P := Tryz.prog)
  clear hp cp hG hW b0 BX hpW cq
  go_enter Tryz.func4, Tryz.ntmps4
  go_upto_region 1 with fail
  rw [← HW.out]
  go_wp2_with fail
  refine (HWK.out).mono ?_
  rintro e w1 ⟨rfl, b1⟩
  go_wp2_with fail
  refine (HL.out _ b1).mono ?_
  rintro e w2 ⟨lb, rfl, h2, b2⟩
  have B2 := Lib.hid (b1.trans (b2.mono b1.size))
  have H2 := Lib.hid h2
  clear b1 b2 h2
  cases lb with
  | true =>
    go_wp2_with fail
    go_ret
    exact ⟨rfl, HB0.out.trans (B2.out.mono HB0.out.size)⟩
  | false =>
    have BX2 := Lib.hid (HBX.out.below B2.out)
    have h14 := H2.out rfl
    have H14 := Lib.hid h14
    obtain ⟨y0, y1, y2, y3, y4, -⟩ := BX2.out
    by_cases ht : 16384 < p.t.size
    · have ht' : (16384 : Int) < (p.t.size : Int) := by omega
      clear ht h14
      go_wp2_with fail
      go_ret
      exact ⟨rfl, HB0.out.trans (B2.out.mono HB0.out.size)⟩
    · have ht' : (p.t.size : Int) ≤ 16384 := by omega
      clear ht h14 y0 y1 y2 y4
      go_upto_region 5 with fail
      clear y3
      have R2 : Hid (RPr w2 (.slice A ps.length c) ps) := Lib.hid (rc_below HP.out B2.out)
      have hO0 : (w2.alloc (.cells #[] 32)).ownsRow W.heap.size 32 5 (.slice (some ⟨w2.heap.size, 0, none⟩) 0 0) 0 [] := own_lower (World.ownsRow_made w2 #[] 0 (Nat.le_refl _) (Nat.zero_le _) (by simp)) B2.out.size
      go_upto_region 6 with (first
        | (at_builtin; refine app_own (w0 := W) W.heap.size 30 32 5 56 _ Tryz.underlying30 infoP rfl (by decide) rfl (.tmp 26) (.tmp 28) rfl _ _ (0 + ps.length) 1 ([] ++ ps.flatMap Prp.cells) spare.cells rfl rfl (O4.out.alloc _) (prop_row w4 spare) (fun y hy => cells_one' [spare] y (by simpa using hy)) (B4.out.alloc B4.out.size _) (by have := H14.out; omega) (by have := H14.out; omega) (Nat.le_trans B4.out.size (by simp)) ?_; intro v5 w5 o5 b5 g5 k5; have O5 := Lib.hid o5; have B5 := Lib.hid b5; clear o5 b5 g5 k5)
        | (at_builtin; refine app_own (w0 := W) W.heap.size 30 32 5 56 _ Tryz.underlying30 infoP rfl (by decide) rfl (.tmp 24) (.tmp 25) rfl _ _ 0 ps.length [] (ps.flatMap Prp.cells) rfl rfl hO0 (rc_alloc R2.out _) (cells_one' ps) (B2.out.alloc B2.out.size _) (by have := H14.out; omega) (by have := H14.out; omega) (Nat.le_trans B2.out.size (by simp)) ?_; intro v4 w4 o4 b4 g4 k4; have O4 := Lib.hid o4; have B4 := Lib.hid b4; clear o4 b4 g4 k4))
      obtain ⟨g5, c5, rfl, hnc5, hg5⟩ : ∃ g5 c5, v5 = .slice (some ⟨g5, 0, none⟩) (ps.length + 1) c5 ∧ ps.length + 1 ≤ c5 ∧ g5 < w5.heap.size := by
        rcases O5.out.2 with ⟨_, h0⟩ | ⟨g5, c5, cur, h1, _, hh, hn, _⟩
        · omega
        · exact ⟨g5, c5, by rw [h1, Nat.zero_add], by omega, (Array.getElem?_eq_some_iff.1 hh).1⟩
      have O5' : Hid (w5.ownsRow W.heap.size 32 5 (.slice (some ⟨g5, 0, none⟩) (ps.length + 1) c5) (ps.length + 1) ((ps ++ [spare]).flatMap Prp.cells)) := Lib.hid (by have h := O5.out; rw [List.flatMap_append]; simpa using h)
      have hmt : ((ps ++ [spare]).flatMap Prp.cells).take (ps.length * 5) = ps.flatMap Prp.cells := by rw [← flat_take, List.take_left]
      have HMT := Lib.hid hmt
      have hm5 : RPr w5 (.slice (some ⟨g5, 0, none⟩) ps.length c5) ps := by
        have h := rc_take (own_rc O5'.out) ps.length (Nat.le_succ _)
        rw [hmt] at h
        exact h
      have M5 := Lib.hid hm5
      have BX5 := Lib.hid (HBX.out.below B5.out)
      have HSET := Lib.hid (set_c (w := w5.drew) p (rc_drew hm5) HS1.out HCQ.out.1)
      have hcI : (ps.length : Int) ≤ (c5 : Int) := by omega
      have HG5 := Lib.hid hg5
      have HSZ := Lib.hid BX5.out.sz
      obtain ⟨y0, y1, y2, y3, y4, -⟩ := BX5.out
      have y0 : w5.drew.cell? ⟨w.heap.size, 0, none⟩ = some (.string p.nm) := y0
      have y1 : w5.drew.cell? ⟨w.heap.size, 1, none⟩ = some (.int .i64 p.k) := y1
      have y2 : w5.drew.cell? ⟨w.heap.size, 2, none⟩ = some (.int .i64 p.n) := y2
      have y3 : w5.drew.cell? ⟨w.heap.size, 3, none⟩ = some (.string p.t) := y3
      have y4 : w5.drew.cell? ⟨w.heap.size, 4, none⟩ = some (.float .f64 p.r) := y4
      clear hmt hm5 hO0 hnc5 hg5
      go_region_held3 (fun w' => w'.cell? ⟨w.heap.size, 0, none⟩ = some (.string p.nm) ∧ w'.cell? ⟨w.heap.size, 1, none⟩ = some (.int .i64 p.k) ∧ w'.cell? ⟨w.heap.size, 2, none⟩ = some (.int .i64 p.n) ∧ w'.cell? ⟨w.heap.size, 3, none⟩ = some (.string p.t) ∧ w'.cell? ⟨w.heap.size, 4, none⟩ = some (.float .f64 p.r))
        (first | exact ⟨y0, y1, y2, y3, y4⟩ | go_keep)
        (first
          | (go_at_call 14; refine (HSET.out).mono ?_; rintro e w6 ⟨v6, rfl, o6, b6⟩; have O6 := Lib.hid o6; have B6 := Lib.hid b6; have y0 := cell_below b6 HSZ.out y0; have y1 := cell_below b6 HSZ.out y1; have y2 := cell_below b6 HSZ.out y2; have y3 := cell_below b6 HSZ.out y3; have y4 := cell_below b6 HSZ.out y4; clear o6))
      have B6' := Lib.hid (B5.out.trans ((Below.refl _ w5).drew.trans (B6.out.mono (by simp)) |>.mono B5.out.size))
      have M6 := Lib.hid (show RPr w6 _ ps from rc_below (rc_drew M5.out) B6.out)
      have O56 := Lib.hid (own_below (own_drewP O5'.out) B6.out)
      have BX6 := Lib.hid (HBX.out.below B6'.out)
      have HSET2 := Lib.hid (set_c (w := w6.drew) p (rc_drew M6.out) HS1.out HCQ.out.1)
      have HSZ6 := Lib.hid BX6.out.sz
      clear y0 y1 y2 y3 y4
      obtain ⟨y0, y1, y2, y3, y4, -⟩ := BX6.out
      have y0 : w6.drew.cell? ⟨w.heap.size, 0, none⟩ = some (.string p.nm) := y0
      have y1 : w6.drew.cell? ⟨w.heap.size, 1, none⟩ = some (.int .i64 p.k) := y1
      have y2 : w6.drew.cell? ⟨w.heap.size, 2, none⟩ = some (.int .i64 p.n) := y2
      have y3 : w6.drew.cell? ⟨w.heap.size, 3, none⟩ = some (.string p.t) := y3
      have y4 : w6.drew.cell? ⟨w.heap.size, 4, none⟩ = some (.float .f64 p.r) := y4
      go_upto_region 7 with fail
      go_region_held3 (fun w' => w'.cell? ⟨w.heap.size, 0, none⟩ = some (.string p.nm) ∧ w'.cell? ⟨w.heap.size, 1, none⟩ = some (.int .i64 p.k) ∧ w'.cell? ⟨w.heap.size, 2, none⟩ = some (.int .i64 p.n) ∧ w'.cell? ⟨w.heap.size, 3, none⟩ = some (.string p.t) ∧ w'.cell? ⟨w.heap.size, 4, none⟩ = some (.float .f64 p.r))
        (first | exact ⟨y0, y1, y2, y3, y4⟩ | go_keep)
        (first
          | (go_at_call 14; refine (HSET2.out).mono ?_; rintro e w7 ⟨v7, rfl, o7, b7⟩; have O7 := Lib.hid o7; have B7 := Lib.hid b7; have y0 := cell_below b7 HSZ6.out y0; have y1 := cell_below b7 HSZ6.out y1; have y2 := cell_below b7 HSZ6.out y2; have y3 := cell_below b7 HSZ6.out y3; have y4 := cell_below b7 HSZ6.out y4; clear o7))
      have B7' := Lib.hid (B6'.out.trans ((Below.refl _ w6).drew.trans (B7.out.mono (by simp)) |>.mono B6'.out.size))
      have O57 := Lib.hid (own_below (own_drewP O56.out) B7.out)
      have O67 := Lib.hid (own_below (own_drewP O6.out) B7.out)
      have hlt6 : ∀ k, v6.ownBlock = some k → w5.heap.size ≤ k ∧ k < w6.heap.size := fun k hk => ⟨by have h := own_base O6.out k hk; simpa using h, own_ltP O6.out hk⟩
      have hge7 : ∀ k, v7.ownBlock = some k → w6.heap.size ≤ k := fun k hk => by have h := own_base O7.out k hk; simpa using h
      have HLT6 := Lib.hid hlt6
      have HGE7 := Lib.hid hge7
      obtain ⟨ol, hol⟩ : ∃ ol, ol = outL ps p := ⟨_, rfl⟩
      rw [← hol] at O67 O7
      have HOL := Lib.hid hol
      have h17 : ol.length ≤ 17 := by
        rw [hol]
        unfold outL
        split
        · rename_i h0
          have := (validB_iff.1 (set_valid h0).2).2
          omega
        · exact Nat.zero_le _
      obtain ⟨A6, c6, rfl⟩ : ∃ A6 c6, v6 = .slice A6 ol.length c6 := rc_anyP (own_rc O67.out)
      clear y0 y1 y2 y3 y4 hlt6 hge7 hol
      have HI0 : Hid (OwnAny w7 w5.heap.size (.slice A6 ol.length c6) ol.length) := Lib.hid ⟨_, own_lower O67.out (by simp)⟩
      go_upto_region 8 with fail
      go_wp2_with fail
      go_loopw [50] (fun i wr => ∃ k : Nat, k ≤ ol.length ∧ i = .int .i64 k ∧ Hid (OwnAny wr w5.heap.size (.slice A6 ol.length c6) ol.length) ∧ Hid (w7.grownBy wr (Value.slice A6 ol.length c6).ownBlock)) (fun i _ => ol.length - (intOf i).toNat)
      case atStart => exact ⟨0, Nat.zero_le _, rfl, HI0, Lib.hid (World.grownBy.refl _ _)⟩
      case round =>
        clear HI0
        obtain ⟨k, hk, rfl, HO, HGR⟩ := hrel
        by_cases hlt : k < ol.length
        · obtain ⟨xs, hxs⟩ := HO.out
          obtain ⟨g, cc, he, hnn⟩ : ∃ g cc, Value.slice A6 ol.length c6 = .slice (some ⟨g, 0, none⟩) ol.length cc ∧ True := by
            rcases hxs.2 with ⟨_, h0⟩ | ⟨g, cc, cur, h1, _⟩
            · omega
            · exact ⟨g, cc, h1, trivial⟩
          injection he with he1 _ he3
          subst he1 he3
          have hlx : xs.length = ol.length * 5 := hxs.1
          have hfz := own_frozen hxs
          have hce : ∀ j, j < 5 → ∃ y, wr.cell? ⟨g, k * 5 + j, none⟩ = some y := fun j hj => by
            obtain ⟨_, _, he', _, _, _, _, h5⟩ := own_rc hxs
            injection he' with he' _ _
            obtain ⟨a, ha, hc⟩ := h5 (k * 5 + j) xs[k * 5 + j] (List.getElem?_eq_getElem (by omega))
            rw [← he'] at ha
            injection ha with ha
            subst ha
            rw [add_plain] at hc
            exact ⟨_, hc⟩
          obtain ⟨y0, q0⟩ := hce 0 (by omega)
          obtain ⟨y1, q1⟩ := hce 1 (by omega)
          obtain ⟨y2, q2⟩ := hce 2 (by omega)
          obtain ⟨y3, q3⟩ := hce 3 (by omega)
          obtain ⟨y4, q4⟩ := hce 4 (by omega)
          rw [Nat.add_zero] at q0
          have s0 := own_set hxs (.string ⟨#[]⟩) (j := k * 5) (by omega)
          have s1 := own_set s0 (.int .i64 0) (j := k * 5 + 1) (by rw [List.length_set]; omega)
          have s2 := own_set s1 (.int .i64 0) (j := k * 5 + 2) (by rw [List.length_set, List.length_set]; omega)
          have s3 := own_set s2 (.string ⟨#[]⟩) (j := k * 5 + 3) (by rw [List.length_set, List.length_set, List.length_set]; omega)
          have s4 := own_set s3 (.float .f64 0) (j := k * 5 + 4) (by rw [List.length_set, List.length_set, List.length_set, List.length_set]; omega)
          have gr : w7.grownBy (((((wr.setCell ⟨g, k * 5, none⟩ (.string ⟨#[]⟩)).setCell ⟨g, k * 5 + 1, none⟩ (.int .i64 0)).setCell ⟨g, k * 5 + 2, none⟩ (.int .i64 0)).setCell ⟨g, k * 5 + 3, none⟩ (.string ⟨#[]⟩)).setCell ⟨g, k * 5 + 4, none⟩ (.float .f64 0)) (some g) :=
            grownBy_trans (grownBy_trans (grownBy_trans (grownBy_trans (grownBy_trans HGR.out (grownBy_set _ _ _ _)) (grownBy_set _ _ _ _)) (grownBy_set _ _ _ _)) (grownBy_set _ _ _ _)) (grownBy_set _ _ _ _)
          have HO2 := Lib.hid (⟨_, s4⟩ : OwnAny _ w5.heap.size (.slice (some ⟨g, 0, none⟩) ol.length c6) ol.length)
          have HGR2 := Lib.hid gr
          have HLT := Lib.hid hlt
          have HWK1 := Lib.hid (wk1 k 17 (by omega) (by omega))
          have hltI : (k : Int) < (ol.length : Int) := by omega
          clear hxs hce s0 s1 s2 s3 s4 gr hlx hnn hlt h17
          go_wp2_with fail
          go_roundw
          case rel => exact ⟨k + 1, HLT.out, by first | rfl | (rw [HWK1.out]; rfl), HO2, HGR2⟩
          case measure => first | exact round_less1 HLT.out | (rw [HWK1.out]; exact round_less1 HLT.out)
        · have hk2 : k = ol.length := by omega
          subst hk2
          have hBE : Below W.heap.size W wr := B7'.out.grown HGR.out B7'.out.size (fun k hk => by have h1 := (HLT6.out k hk).1; have h2 := B5.out.size; omega)
          have BE := Lib.hid hBE
          have RL := Lib.hid (show RPr wr (.slice A ps.length c) ps from rc_below HP.out hBE)
          have hm9 := own_other O57.out HGR.out (fun k hk e => by
            have h1 := (HLT6.out k e).1
            have h2 : g5 = k := by injection hk
            have h3 := HG5.out
            omega)
          have hn9 := own_other O7.out HGR.out (fun k hk e => by
            have h1 := (HLT6.out k e).2
            have h2 := HGE7.out k hk
            omega)
          have hm9' : RPr wr (.slice (some ⟨g5, 0, none⟩) ps.length c5) ps := by
            have h := rc_take (own_rc hm9) ps.length (Nat.le_succ _)
            rw [HMT.out] at h
            exact h
          have M9 := Lib.hid hm9'
          have N9 : Hid (RPr wr v7 ol) := Lib.hid (own_rc hn9)
          have hsp : wr.cell? ⟨g5, ps.length * 5, none⟩ = some (.string ⟨#[115, 112, 97, 114, 101]⟩) := by
            obtain ⟨_, _, he', _, _, _, _, h5⟩ := own_rc hm9
            injection he' with he' _ _
            obtain ⟨a, ha, hc⟩ := h5 (ps.length * 5) (.string ⟨#[115, 112, 97, 114, 101]⟩) (by
              rw [List.flatMap_append, List.getElem?_append_right (by rw [flat_len Prp.cells 5 (fun _ => rfl)]; omega), flat_len Prp.cells 5 (fun _ => rfl), Nat.sub_self]
              rfl)
            rw [← he'] at ha
            injection ha with ha
            subst ha
            rw [add_plain] at hc
            exact hc
          have HSP := Lib.hid hsp
          have hgw : g5 < wr.heap.size := by have h1 := HG5.out; have h2 := B6.out.size; have h3 := B7.out.size; have h4 := HGR.out.size; simp at h2 h3; omega
          have HGW := Lib.hid hgw
          have BX9 := Lib.hid (HBX.out.below hBE)
          have HRS := Lib.hid (refSet_c p RL.out HS2.out HCQ.out.1 HCQ.out.2.2.1)
          have HFIN := Lib.hid (HB0.out.trans (hBE.mono HB0.out.size))
          clear hlt hk hBE hm9 hn9 hm9' hsp hgw h17
          obtain ⟨y0, y1, y2, y3, y4, -⟩ := BX9.out
          obtain ⟨A7, c7, rfl⟩ := rc_anyP N9.out
          go_wp2_with fail
          refine (HRS.out).mono ?_
          rw [← HOL.out]
          rintro e w9 ⟨v9, rfl, o9, b9⟩
          obtain ⟨A9, c9, rfl⟩ := rc_anyP (own_rc o9)
          have P9 : Hid (RPr w9 (.slice A9 ol.length c9) ol) := Lib.hid (own_rc o9)
          have B9 := Lib.hid (HFIN.out.trans (b9.mono HFIN.out.size))
          have s9 := cell_below b9 HGW.out HSP.out
          have HA1 := Lib.hid (sameAll_c (rc_below M9.out b9) (rc_below RL.out b9))
          have N10 := Lib.hid (rc_below N9.out b9)
          have HGW9 := Lib.hid (Nat.lt_of_lt_of_le HGW.out b9.size)
          clear o9 b9 y0 y1 y2 y3 y4
          go_wp2_with fail
          refine (HA1.out).mono ?_
          rintro e w10 ⟨b1, rfl, hb1, b10⟩
          obtain rfl : b1 = true := by simpa using hb1
          have s10 := cell_below b10 HGW9.out s9
          have HA2 := Lib.hid (sameAll_c (show RPr w10 _ ol from rc_below N10.out b10) (show RPr w10 _ ol from rc_below P9.out b10))
          have B10 := Lib.hid (B9.out.trans (b10.mono B9.out.size))
          have hnI : (ps.length : Int) < (ps.length : Int) + 1 := by omega
          clear b10 hb1 s9
          go_wp2_with fail
          refine (HA2.out).mono ?_
          rintro e w11 ⟨b2, rfl, hb2, b11⟩
          obtain rfl : b2 = true := by simpa using hb2
          have B11 := Lib.hid (B10.out.trans (b11.mono B10.out.size))
          clear b11 hb2
          go_wp2_with fail
          go_ret
          exact ⟨rfl, B11.out⟩
end Go.Proofs.YtcehkaombanhaaaGreatDoor
