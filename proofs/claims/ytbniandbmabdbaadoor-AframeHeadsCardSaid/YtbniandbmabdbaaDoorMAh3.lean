/- Texts of this claim, joined: RkB, RjD, RhA, RfN, RfP, RfQ, RfR, RhB, RhC, RjA, AiA, AgD, AgF, AgE. -/
import Derived.Test.YtbniandbmabdbaaDoorMAh2
import Derived.Deep.AppendLies
import Derived.Deep.DeepCutAuto
import Derived.Deep.CutRange
import Derived.Laws.OwnMore
/- The reference's reader: the next table. -/
namespace Go.Proofs.YtbniandbmabdbaaDoor
open Go Go.RowKit
set_option linter.unusedSimpArgs false
set_option linter.unusedVariables false

def RTabPost (w : World) (R : Nat) (O : Option (List Prp × ByteArray)) (e : Ending) (w' : World) : Prop :=
  ∃ v, e = .returned v ∧ OwnP w' w.heap.size v (outX [] O) ∧ RX w' R (leftX O) ∧ w.grownBy w' (some R)
structure TJ (w1 wr : World) (G : Nat) (x : ByteArray) (v : Value) (acc : List Prp) (y : ByteArray) : Prop where
  rd : RR wr G y false
  own : wr.ownsRow w1.heap.size 59 5 v acc.length (acc.flatMap Prp.cells)
  bel : Below w1.heap.size w1 wr
  tot : refIn x [] = refIn y acc
  len : acc.length + y.size ≤ x.size
  nms : ∀ p ∈ acc, p.nm.size ≤ 140737488351232 ∧ p.r < 18446744073709551616
theorem rx_set1 {w : World} {R : Nat} {o : Option ByteArray} (h : RX w R o) : RX (w.setCell ⟨R, 1, none⟩ (.bool true)) R none := by
  obtain ⟨s, b, h⟩ := rx_bad h
  exact ⟨s, rr_set1 h true⟩
theorem rtab_bad {w w' : World} {R : Nat} {O : Option (List Prp × ByteArray)} (hO : O = none) (hr : RX w' R none) (hg : w.grownBy w' (some R)) : RTabPost w R O (.returned (.slice none 0 0)) w' := by
  subst hO
  exact ⟨_, rfl, .inl ⟨rfl, rfl⟩, hr, hg⟩
theorem rtab_good {w w' : World} {R : Nat} {O : Option (List Prp × ByteArray)} {acc : List Prp} {o : Option ByteArray} {v : Value} (h1 : outX [] O = acc ∧ leftX O = o) (hv : OwnP w' w.heap.size v acc) (hr : RX w' R o) (hg : w.grownBy w' (some R)) : RTabPost w R O (.returned v) w' := by
  obtain ⟨h1, h2⟩ := h1
  subst h1 h2
  exact ⟨v, rfl, hv, hr, hg⟩
/-- A reader's writes leave a row of properties. -/
theorem own_rx {w w' : World} {B n g : Nat} {v : Value} {xs : List Value} {o : Option ByteArray} (h : w.ownsRow B 59 5 v n xs) (hr : RX w g o) (hg : w.grownBy w' (some g)) : w'.ownsRow B 59 5 v n xs := by
  obtain ⟨s, b, hr⟩ := rx_bad hr
  exact own_other h hg (fun k hk e' => own_ne h hr (by decide) (by rw [hk]; injection e' with e'; rw [e']))
theorem rx_facts {w : World} {R : Nat} {o : Option ByteArray} (h : RX w R o) : ∃ s b, w.cell? ⟨R, 0, none⟩ = some (.string s) ∧ w.cell? ⟨R, 1, none⟩ = some (.bool b) ∧ w.frozen? ⟨R, 1, none⟩ = false := by
  obtain ⟨s, b, h⟩ := rx_bad h
  obtain ⟨a, c, d, e⟩ := rr_facts h
  exact ⟨s, b, a, c, e⟩

set_option maxRecDepth 1000000 in
set_option maxHeartbeats 8000000 in
theorem refTable_c {w : World} {R : Nat} {o : Option ByteArray} (h : RX w R o) (hs : ∀ s, o = some s → s.size ≤ 1073741824) :
    Calls Tryd.prog 30 #[.pointer (some ⟨R, 0, none⟩)] w (RTabPost w R (o.bind tableP)) := by
  have HL := Lib.hid (xLong_c h)
  have qs := store_float (P := Tryd.prog)
  have HRL := Lib.hid (rx_lt h)
  obtain ⟨O, hO⟩ : ∃ O, O = o.bind longP := ⟨_, rfl⟩
  obtain ⟨x, hx⟩ : ∃ x, x = outX ByteArray.empty O := ⟨_, rfl⟩
  have hxs : x.size ≤ 1073741824 := by
    rw [hx]
    cases hOc : O with
    | none => exact Nat.zero_le _
    | some q =>
      rw [hOc] at hO
      cases o with
      | none => cases hO
      | some s =>
        have := longP_size hO.symm
        have := hs s rfl
        show q.1.size ≤ _
        omega
  have HX := Lib.hid hxs
  have HB1 := Lib.hid (fun h => tab_bad1 hO hx h)
  have HB2 := Lib.hid (fun acc h hv => tab_bad2 (acc := acc) hO hx h hv)
  have HGD := Lib.hid (fun acc h hv => tab_good (acc := acc) hO hx h hv)
  rw [← hO] at HL
  unfold XPost at HL
  rw [← hx] at HL
  clear hO hx h hxs hs
  go_enter Tryd.func30, Tryd.ntmps30
  go_wp2_with fail
  refine (HL.out).mono ?_
  rintro e w1 ⟨rfl, r1, g1⟩
  have R1 := Lib.hid r1
  have G1 := Lib.hid g1
  clear r1 g1 HL
  go_wp2_with fail
  go_loopg [4] x.size (fun kx v wr => ∃ (acc : List Prp) (y : ByteArray), y.size ≤ kx ∧ Hid (TJ w1 wr w1.heap.size x v acc y))
  case atStart =>
    exact ⟨[], x, Nat.le_refl _, Lib.hid ⟨heap_alloc_new w1 _, (own_nil w1 w1.heap.size 59 5).alloc _, (Below.refl _ _).alloc (Nat.le_refl _) _, rfl, by simp, by simp⟩⟩
  case round =>
    obtain ⟨acc, y, hyk, HI⟩ := hrel
    obtain ⟨c0, c1, f0, f1⟩ := rr_facts HI.out.rd
    by_cases hy : y.size = 0
    · have htot := Lib.hid (show refIn x [] = some acc by rw [HI.out.tot, refIn_end hy])
      obtain rfl := ba_nil hy
      have HV := refValid_c (ownP_rpr (own_ownP HI.out.own)) HI.out.nms
      clear hy hyk
      cases hv : validB acc with
      | true =>
        rw [hv] at HV
        have HV' := Lib.hid HV
        have HVB := Lib.hid hv
        clear HV hv
        go_wp2_with fail
        refine (HV'.out).mono ?_
        rintro e w2 ⟨rfl, b2⟩
        go_wp2_with fail
        go_ret
        have B2 := HI.out.bel.trans (b2.mono HI.out.bel.size)
        have O2 := own_below HI.out.own b2
        exact rtab_good (HGD.out _ htot.out HVB.out) (ownP_lower (own_ownP O2) G1.out.size) (rx_below R1.out B2) (G1.out.trans (grownBy_below B2 _))
      | false =>
        rw [hv] at HV
        have HV' := Lib.hid HV
        have HVB := Lib.hid hv
        clear HV hv
        go_wp2_with fail
        refine (HV'.out).mono ?_
        rintro e w2 ⟨rfl, b2⟩
        have B2 := HI.out.bel.trans (b2.mono HI.out.bel.size)
        have R2 := Lib.hid (rx_below R1.out B2)
        obtain ⟨s', bb', d0, d1, d2⟩ := rx_facts R2.out
        go_wp2_with fail
        go_ret
        exact rtab_bad (HB2.out _ htot.out HVB.out) (rx_set1 R2.out) ((G1.out.trans (grownBy_below B2 _)).trans (grownBy_set _ R 1 _))
    · have hE := ne_nil y (by omega)
      have HY := Lib.hid hy
      have HS := Lib.hid (xShort_c (o := some y) HI.out.rd)
      clear hy
      go_wp2_with fail
      refine (HS.out).mono ?_
      rintro e w2 ⟨rfl, r2, g2⟩
      obtain ⟨nm, hnm⟩ : ∃ nm, nm = outX ByteArray.empty ((some y).bind shortP) := ⟨_, rfl⟩
      have hnms : nm.size ≤ 255 := by
        rw [hnm, Option.bind_some]
        cases hs2 : shortP y with
        | none => exact Nat.zero_le _
        | some q => exact (shortP_size (show shortP y = some (q.1, q.2) from hs2)).1
      rw [← hnm]
      have HNM := Lib.hid hnm
      have HNS := Lib.hid hnms
      have R2 := Lib.hid r2
      have G2 := Lib.hid g2
      clear r2 g2 hnm hnms c0 c1 f0 f1
      have hr2 : RX (w2.alloc (.cells #[.string nm, .int .i64 0, .int .i64 0, .string ⟨#[]⟩, .float .f64 0] 59)) w1.heap.size (leftX ((some y).bind shortP)) := rx_below R2.out (below_al1 _ _)
      have HV := Lib.hid (xValue_c hr2)
      have bal := Lib.hid (below_al1 w2 (.cells #[.string nm, .int .i64 0, .int .i64 0, .string ⟨#[]⟩, .float .f64 0] 59))
      have bI2 := Lib.hid (below_grown HI.out.bel G2.out (Nat.le_refl _) HI.out.bel.size)
      clear hr2
      go_wp2_with fail
      refine (HV.out).mono ?_
      rintro e w3 ⟨vv, rfl, hvv, r3, g3⟩
      unfold Vl.val
      have hpb : w3.heap[w2.heap.size]? = some (.cells #[.string nm, .int .i64 0, .int .i64 0, .string ⟨#[]⟩, .float .f64 0] 59 (0, 0)) := by
        rw [g3.block w2.heap.size (by simp) (fun e => by injection e with e; have := rx_lt R2.out; omega)]
        exact heap_alloc_new w2 _
      have q0 : w3.cell? ⟨w2.heap.size, 0, none⟩ = some (.string nm) := by simp [World.cell?, hpb]
      have q1 : w3.cell? ⟨w2.heap.size, 1, none⟩ = some (.int .i64 0) := by simp [World.cell?, hpb]
      have q2 : w3.cell? ⟨w2.heap.size, 2, none⟩ = some (.int .i64 0) := by simp [World.cell?, hpb]
      have q3 : w3.cell? ⟨w2.heap.size, 3, none⟩ = some (.string ⟨#[]⟩) := by simp [World.cell?, hpb]
      have q4 : w3.cell? ⟨w2.heap.size, 4, none⟩ = some (.float .f64 0) := by simp [World.cell?, hpb]
      have f0' : ∀ j, w3.frozen? ⟨w2.heap.size, j, none⟩ = false := fun j => by simp [World.frozen?, hpb]
      have f1 := f0' 1
      have f2 := f0' 2
      have f3 := f0' 3
      have f4 := f0' 4
      have HPB := Lib.hid hpb
      have R3 := Lib.hid r3
      have G3 := Lib.hid g3
      have HVV := Lib.hid hvv
      clear hpb f0' r3 g3 hvv
      go_upto_region 6 with fail
      obtain ⟨W, hW⟩ : ∃ W, W = ((((w3.setCell ⟨w2.heap.size, 1, none⟩ (.int .i64 vv.k)).setCell ⟨w2.heap.size, 2, none⟩ (.int .i64 vv.n)).setCell ⟨w2.heap.size, 3, none⟩ (.string vv.t)).setCell ⟨w2.heap.size, 4, none⟩ (.float .f64 vv.r)) := ⟨_, rfl⟩
      have o2 := own_rx (o := some y) HI.out.own HI.out.rd G2.out
      have hne : u4.ownBlock ≠ some w2.heap.size := fun e => by have := own_lt o2 e; omega
      have o3 := own_rx (o2.alloc (.cells #[.string nm, .int .i64 0, .int .i64 0, .string ⟨#[]⟩, .float .f64 0] 59)) (rx_below R2.out bal.out) G3.out
      have hbm : w1.heap.size ≤ w2.heap.size := bI2.out.size
      have hgl : w1.heap.size < w2.heap.size := rx_lt R2.out
      have hgp : w1.heap.size ≠ w2.heap.size := by omega
      have bI3 := below_grown (bI2.out.trans (bal.out.mono bI2.out.size)) G3.out (Nat.le_refl _) (Nat.le_trans bI2.out.size bal.out.size)
      have OW := Lib.hid (show W.ownsRow w1.heap.size 59 5 u4 acc.length (acc.flatMap Prp.cells) by rw [hW]; exact own_set (own_set (own_set (own_set o3 hne 1 _) hne 2 _) hne 3 _) hne 4 _)
      have RW := Lib.hid (show RX W w1.heap.size (leftX ((leftX ((some y).bind shortP)).bind valP)) by rw [hW]; exact rx_other (rx_other (rx_other (rx_other R3.out hgp 1 _) hgp 2 _) hgp 3 _) hgp 4 _)
      have BW := Lib.hid (show Below w1.heap.size w1 W by rw [hW]; exact below_set (below_set (below_set (below_set bI3 hbm 1 _) hbm 2 _) hbm 3 _) hbm 4 _)
      have hPB : PB W w2.heap.size ⟨nm, vv.k, vv.n, vv.t, vv.r⟩ := by rw [hW]; exact pb_set HPB.out
      rw [← hW]
      obtain ⟨p, hp⟩ : ∃ p : Prp, p = ⟨nm, vv.k, vv.n, vv.t, vv.r⟩ := ⟨_, rfl⟩
      obtain ⟨O3, hO3⟩ : ∃ O3, O3 = leftX ((leftX ((some y).bind shortP)).bind valP) := ⟨_, rfl⟩
      have HIT := Lib.hid (show ∀ y2, O3 = some y2 → itemP y = some (p, y2) from fun y2 h => by rw [hO3] at h; rw [item_of HVV.out h, ← HNM.out, hp])
      have HOL := Lib.hid (show O3 = itemL y from hO3)
      rw [← hp] at hPB
      rw [← hO3] at RW
      have HPN := Lib.hid (show p.nm.size ≤ 255 by rw [hp]; exact HNS.out)
      have HPW := Lib.hid hPB
      have HGL := Lib.hid hgl
      have HWL := Lib.hid (rx_lt RW.out)
      obtain ⟨A, c, rfl, hAc, hcell⟩ := props_at (ownP_rpr (own_ownP OW.out))
      clear hW o2 hne o3 hbm hgl hgp bI3 hPB hp hO3 hcell q0 q1 q2 q3 q4 f1 f2 f3 f4 bI2 bal HV HPB R3 G3 R2 G2 HVV HNM HNS HS
      have hal : acc.length ≤ 1073741824 := by have := HX.out; have := HI.out.len; omega
      go_wp2_with fail
      go_loopw [36] (fun i wr => ∃ k : Nat, k ≤ acc.length ∧ i = .int .i64 k ∧ Hid (RX wr w1.heap.size (dupX p (acc.take k) O3)) ∧ Hid (W.grownBy wr (some w1.heap.size))) (fun i _ => acc.length - (intOf i).toNat)
      case atStart => exact ⟨0, Nat.zero_le _, rfl, Lib.hid RW.out, Lib.hid (World.grownBy.refl W _)⟩
      case round =>
        obtain ⟨k, hk, rfl, RK, GK⟩ := hrel
        have hpb := Lib.hid (show PB wr w2.heap.size p by unfold PB; rw [GK.out.block _ (pb_lt HPW.out) (fun e => by injection e with e; have := HGL.out; omega)]; exact HPW.out)
        obtain ⟨y0, _, _, _, _⟩ := pb_facts hpb.out
        have OK := Lib.hid (own_rx OW.out RW.out GK.out)
        by_cases hlt : k < acc.length
        · obtain ⟨p', hp'⟩ : ∃ p', acc[k]? = some p' := ⟨_, List.getElem?_eq_getElem hlt⟩
          obtain ⟨A', c', he, _, hcell⟩ := props_at (ownP_rpr (own_ownP OK.out))
          injection he with e1 e2 e3
          subst e1 e3
          obtain ⟨a, rfl, g0, g1', g2', g3', g4'⟩ := hcell k p' hp'
          have HP' := Lib.hid hp'
          have HLT := Lib.hid hlt
          have hltI : (k : Int) < acc.length := by omega
          have hk0 : (0 : Int) ≤ k := by omega
          have hts : acc.take (k + 1) = acc.take k ++ [p'] := by rw [List.take_add_one, hp']; rfl
          have HTS := Lib.hid hts
          clear hp' hcell hlt hts e2
          obtain ⟨WA, hWA⟩ : ∃ WA, WA = wr.alloc (.cells #[.string p'.nm, .int .i64 p'.k, .int .i64 p'.n, .string p'.t, .float .f64 p'.r] 59) := ⟨_, rfl⟩
          have hbA : Below wr.heap.size wr WA := by rw [hWA]; exact below_al1 _ _
          have x0 : WA.cell? ⟨wr.heap.size, 0, none⟩ = some (.string p'.nm) := by rw [hWA]; exact (pb_facts (pb_new wr p')).1
          have y1 : WA.cell? ⟨w2.heap.size, 0, none⟩ = some (.string p.nm) := by rw [hWA]; exact (pb_facts (pb_alloc hpb.out _)).1
          have RA := Lib.hid (rx_below RK.out hbA)
          have GA := Lib.hid (GK.out.trans (grownBy_below hbA (some w1.heap.size)))
          obtain ⟨s', bb', d0, d1, d2⟩ := rx_facts RA.out
          go_upto_region 9 with fail
          rw [← hWA]
          have HWA := Lib.hid hWA
          clear hWA hbA y0 g0 g1' g2' g3' g4' d0
          by_cases hd : p'.nm = p.nm
          · rw [hd] at x0
            have HD := Lib.hid hd
            clear hd
            go_wp2_with fail
            go_roundw
            case rel => exact ⟨k + 1, HLT.out, by go_num, Lib.hid (by rw [HTS.out, dup_yes HD.out]; exact rx_set1 RA.out), Lib.hid (GA.out.trans (grownBy_set _ _ 1 _))⟩
            case measure => have := HLT.out; simp [intOf]; omega
          · have hd' := str_ne hd
            have HD := Lib.hid hd
            clear hd
            go_wp2_with fail
            go_roundw
            case rel => exact ⟨k + 1, HLT.out, by go_num, Lib.hid (by rw [HTS.out, dup_no HD.out]; exact RA.out), GA⟩
            case measure => have := HLT.out; simp [intOf]; omega
        · obtain rfl : k = acc.length := by omega
          have htk : acc.take acc.length = acc := List.take_of_length_le (Nat.le_refl _)
          rw [htk] at RK
          clear htk hlt hk
          obtain ⟨o4, ho4⟩ : ∃ o4, o4 = dupX p acc O3 := ⟨_, rfl⟩
          rw [← ho4] at RK
          have HO4 := Lib.hid ho4
          clear ho4
          cases o4 with
          | none =>
            have hno := Lib.hid (in_stop HI.out.tot HY.out HIT.out HOL.out HO4.out.symm)
            obtain ⟨s', hR⟩ := RK.out
            obtain ⟨d0, d1, d2, d3⟩ := rr_facts hR
            have HR := Lib.hid hR
            clear hR d0 d2 d3
            have BB := Lib.hid (below_grown BW.out GK.out (Nat.le_refl _) BW.out.size)
            have R2 := Lib.hid (rx_below R1.out BB.out)
            obtain ⟨s3, bb3, e0, e1, e2⟩ := rx_facts R2.out
            go_wp2_with fail
            go_ret
            exact rtab_bad (HB1.out hno.out) (rx_set1 R2.out) ((G1.out.trans (grownBy_below BB.out _)).trans (grownBy_set _ R 1 _))
          | some y2 =>
            have hdo := dup_some HO4.out.symm
            have HF := Lib.hid hdo.2
            have HIY := Lib.hid (HIT.out y2 hdo.1)
            obtain ⟨d0, d1, d2, d3⟩ := rr_facts (show RR wr w1.heap.size y2 false from RK.out)
            clear hdo d0 d2 d3
            have BB := Lib.hid (below_grown BW.out GK.out (Nat.le_refl _) BW.out.size)
            by_cases h16 : 16 < acc.length
            · have h16' : (16 : Int) < acc.length := by omega
              have HV := refValid_c (ownP_rpr (own_ownP OK.out)) HI.out.nms
              rw [valid_17 h16] at HV
              have HV' := Lib.hid HV
              have hno := Lib.hid (in_long HI.out.tot HY.out HIY.out h16)
              clear HV h16
              go_wp2_with fail
              refine (HV'.out).mono ?_
              rintro e w5 ⟨rfl, b5⟩
              have B5 := Lib.hid (BB.out.trans (b5.mono BB.out.size))
              have R2 := Lib.hid (rx_below R1.out B5.out)
              obtain ⟨s3, bb3, e0, e1, e2⟩ := rx_facts R2.out
              clear b5
              go_wp2_with fail
              go_ret
              exact rtab_bad (HB1.out hno.out) (rx_set1 R2.out) ((G1.out.trans (grownBy_below B5.out _)).trans (grownBy_set _ R 1 _))
            · have h16' : (acc.length : Int) ≤ 16 := by omega
              have H16 := Lib.hid (show acc.length ≤ 16 by omega)
              have hnx := Lib.hid (in_next HI.out.tot HY.out HIY.out HF.out H16.out)
              obtain ⟨w4, hw4⟩ : ∃ w4, w4 = wr := ⟨_, rfl⟩
              have HW4 := Lib.hid hw4
              have OK4 : Hid (w4.ownsRow w1.heap.size 59 5 (.slice A acc.length c) acc.length (acc.flatMap Prp.cells)) := Lib.hid (by rw [hw4]; exact OK.out)
              have PB4 : Hid (PB w4 w2.heap.size p) := Lib.hid (by rw [hw4]; exact hpb.out)
              have RK4 : Hid (RX w4 w1.heap.size (some y2)) := Lib.hid (by rw [hw4]; exact RK.out)
              have BB4 : Hid (Below w1.heap.size w1 w4) := Lib.hid (by rw [hw4]; exact BB)
              have h16n : acc.length ≤ 16 := H16.out
              clear h16 hw4 GK OK hpb RK BB y0
              go_wp2_with fail
              go_loopw [8, 9, 60] (fun m l i wx => ∃ (k : Nat) (T : List Prp × Bool), k ≤ acc.length ∧ i = .int .i64 k ∧ Hid (T = insT p (acc.take k) ([], false)) ∧ l = .bool T.2 ∧ Hid (wx.ownsRow w4.heap.size 59 5 m T.1.length (T.1.flatMap Prp.cells)) ∧ Hid (Below w4.heap.size w4 wx)) (fun _ _ i _ => acc.length - (intOf i).toNat)
              case atStart => exact ⟨0, ([], false), Nat.zero_le _, rfl, Lib.hid rfl, rfl, Lib.hid (own_nil _ _ _ _), Lib.hid (by rw [HW4.out]; exact Below.refl _ _)⟩
              case round =>
                obtain ⟨k, ⟨T1, T2⟩, hk, rfl, HT, rfl, OM, BM⟩ := hrel
                have hTl : T1.length ≤ 40 := by
                  have h := insT_len p (acc.take k) ([], false)
                  rw [← HT.out, List.length_take] at h
                  simp only [List.length_nil] at h
                  omega
                have HTL := Lib.hid hTl
                have PX := Lib.hid (pb_below PB4.out BM.out (pb_lt PB4.out))
                by_cases hlt : k < acc.length
                · obtain ⟨p', hp'⟩ : ∃ p', acc[k]? = some p' := ⟨_, List.getElem?_eq_getElem hlt⟩
                  obtain ⟨A', c', he, _, hcell⟩ := props_at (ownP_rpr (own_ownP (own_below OK4.out BM.out)))
                  injection he with e1 e2 e3
                  subst e1 e3
                  obtain ⟨a, rfl, g0, g1', g2', g3', g4'⟩ := hcell k p' hp'
                  have HLT := Lib.hid hlt
                  have hltI : (k : Int) < acc.length := by omega
                  have hk0 : (0 : Int) ≤ k := by omega
                  have hts : acc.take (k + 1) = acc.take k ++ [p'] := by rw [List.take_add_one, hp']; rfl
                  have HST := Lib.hid (show insT p (acc.take (k + 1)) ([], false) = if T2 = false ∧ Go.Op.bytesLess p.nm.toList p'.nm.toList = true then (T1 ++ [p, p'], true) else (T1 ++ [p'], T2) by rw [hts, insT_snoc, ← HT.out])
                  clear hp' hcell hlt hts e2 hTl
                  obtain ⟨WA, hWA⟩ : ∃ WA, WA = wr.alloc (.cells #[.string p'.nm, .int .i64 p'.k, .int .i64 p'.n, .string p'.t, .float .f64 p'.r] 59) := ⟨_, rfl⟩
                  have BA := Lib.hid (show Below w4.heap.size w4 WA by rw [hWA]; exact BM.out.alloc BM.out.size _)
                  have OA := Lib.hid (show WA.ownsRow w4.heap.size 59 5 u8 T1.length (T1.flatMap Prp.cells) by rw [hWA]; exact OM.out.alloc _)
                  have PA := Lib.hid (show PB WA wr.heap.size p' by rw [hWA]; exact pb_new wr p')
                  have PP := Lib.hid (show PB WA w2.heap.size p by rw [hWA]; exact pb_alloc PX.out _)
                  have hou := Lib.hid (show ∀ j, u8.ownBlock = some j → j ≠ wr.heap.size from fun j hj => by have := own_lt OM.out hj; omega)
                  obtain ⟨x0, x1, x2, x3, x4⟩ := pb_facts PA.out
                  obtain ⟨y0, y1, y2', y3, y4⟩ := pb_facts PP.out
                  go_upto_region 18 with fail
                  rw [← hWA]
                  clear hWA g0 g1' g2' g3' g4'
                  cases T2 with
                  | true =>
                    rw [if_neg (by simp)] at HST
                    go_wp2_with (at_builtin; refine app_own (w0 := w4) w4.heap.size 36 59 5 56 _ Tryd.underlying36 info_prop rfl (by decide) rfl (.tmp 77) (.tmp 79) rfl u8 _ T1.length 1 (T1.flatMap Prp.cells) (Prp.cells p') rfl rfl (OA.out.alloc _) (prop_new WA p') (cells_one [p']) (BA.out.alloc BA.out.size _) (by have := HTL.out; first | omega | (simp only [List.length_append, List.length_cons, List.length_nil]; omega)) (by have := HTL.out; first | omega | (simp only [List.length_append, List.length_cons, List.length_nil]; omega)) (by have := BA.out.size; simp; omega) ?_; intro v5 w5 o5 b5 g5 _; have O5 := Lib.hid o5; have B5 := Lib.hid b5; have G5 := Lib.hid g5; clear o5 b5 g5)
                    go_roundw
                    case rel => exact ⟨k + 1, _, HLT.out, by go_num, Lib.hid HST.out.symm, rfl, Lib.hid (by have := O5.out; simpa using this), B5⟩
                    case measure => have := HLT.out; simp [intOf]; omega
                  | false =>
                    cases hls : Go.Op.bytesLess p.nm.toList p'.nm.toList with
                    | true =>
                      rw [if_pos ⟨rfl, hls⟩] at HST
                      go_upto_region 19 with fail
                      go_upto_region 20 with (at_builtin; refine app_own (w0 := w4) w4.heap.size 36 59 5 56 _ Tryd.underlying36 info_prop rfl (by decide) rfl (.tmp 73) (.tmp 75) rfl u8 _ T1.length 1 (T1.flatMap Prp.cells) (Prp.cells p) rfl rfl (OA.out.alloc _) (prop_new WA p) (cells_one [p]) (BA.out.alloc BA.out.size _) (by have := HTL.out; first | omega | (simp only [List.length_append, List.length_cons, List.length_nil]; omega)) (by have := HTL.out; first | omega | (simp only [List.length_append, List.length_cons, List.length_nil]; omega)) (by have := BA.out.size; simp; omega) ?_; intro v5 w5 o5 b5 g5 _; have O5 := Lib.hid o5; have B5 := Lib.hid b5; have G5 := Lib.hid g5; clear o5 b5 g5)
                      have O6 := Lib.hid (show w5.ownsRow w4.heap.size 59 5 v5 (T1 ++ [p]).length ((T1 ++ [p]).flatMap Prp.cells) from by rw [List.length_append, List.flatMap_append]; have := O5.out; simpa using this)
                      have PA5 := Lib.hid (show PB w5 wr.heap.size p' from by
                        unfold PB
                        rw [G5.out.block _ (by have := pb_lt PA.out; simp; omega) (fun e => hou.out _ e.symm rfl)]
                        exact pb_alloc PA.out _)
                      clear x0 x1 x2 x3 x4 y0 y1 y2' y3 y4
                      obtain ⟨x0, x1, x2, x3, x4⟩ := pb_facts PA5.out
                      go_wp2_with (at_builtin; refine app_own (w0 := w4) w4.heap.size 36 59 5 56 _ Tryd.underlying36 info_prop rfl (by decide) rfl (.tmp 77) (.tmp 79) rfl v5 _ (T1 ++ [p]).length 1 ((T1 ++ [p]).flatMap Prp.cells) (Prp.cells p') rfl rfl (O6.out.alloc _) (prop_new w5 p') (cells_one [p']) (B5.out.alloc B5.out.size _) (by have := HTL.out; first | omega | (simp only [List.length_append, List.length_cons, List.length_nil]; omega)) (by have := HTL.out; first | omega | (simp only [List.length_append, List.length_cons, List.length_nil]; omega)) (by have := B5.out.size; simp; omega) ?_; intro v7 w7 o7 b7 g7 _; have O7 := Lib.hid o7; have B7 := Lib.hid b7; have G7 := Lib.hid g7; clear o7 b7 g7)
                      go_roundw
                      case rel => exact ⟨k + 1, _, HLT.out, by go_num, Lib.hid HST.out.symm, rfl, Lib.hid (by have := O7.out; simpa using this), B7⟩
                      case measure => have := HLT.out; simp [intOf]; omega
                    | false =>
                      rw [if_neg (fun k => by have := k.2; rw [hls] at this; cases this)] at HST
                      go_wp2_with (at_builtin; refine app_own (w0 := w4) w4.heap.size 36 59 5 56 _ Tryd.underlying36 info_prop rfl (by decide) rfl (.tmp 77) (.tmp 79) rfl u8 _ T1.length 1 (T1.flatMap Prp.cells) (Prp.cells p') rfl rfl (OA.out.alloc _) (prop_new WA p') (cells_one [p']) (BA.out.alloc BA.out.size _) (by have := HTL.out; first | omega | (simp only [List.length_append, List.length_cons, List.length_nil]; omega)) (by have := HTL.out; first | omega | (simp only [List.length_append, List.length_cons, List.length_nil]; omega)) (by have := BA.out.size; simp; omega) ?_; intro v5 w5 o5 b5 g5 _; have O5 := Lib.hid o5; have B5 := Lib.hid b5; have G5 := Lib.hid g5; clear o5 b5 g5)
                      go_roundw
                      case rel => exact ⟨k + 1, _, HLT.out, by go_num, Lib.hid HST.out.symm, rfl, Lib.hid (by have := O5.out; simpa using this), B5⟩
                      case measure => have := HLT.out; simp [intOf]; omega
                · obtain rfl : k = acc.length := by omega
                  have htk : acc.take acc.length = acc := List.take_of_length_le (Nat.le_refl _)
                  have hen := insT_end p acc []
                  rw [htk] at HT
                  rw [← HT.out, List.nil_append] at hen
                  have HEN := Lib.hid hen
                  have HNQ := Lib.hid (show ∀ q ∈ insP p acc, q.nm.size ≤ 140737488351232 ∧ q.r < 18446744073709551616 from fun q hq => by
                    rcases List.mem_cons.1 ((insP_perm p acc).mem_iff.1 hq) with rfl | hq
                    · exact ⟨by have := HPN.out; omega, itemP_r w HIY.out⟩
                    · exact HI.out.nms q hq)
                  have hnew : ∀ (wN : World) (vN : Value), wN.ownsRow w4.heap.size 59 5 vN (insP p acc).length ((insP p acc).flatMap Prp.cells) → Below w4.heap.size w4 wN → TJ w1 wN w1.heap.size x vN (insP p acc) y2 := fun wN vN h1 h2 =>
                    ⟨rx_below (o := some y2) RK4.out h2, own_lower h1 BB4.out.size, BB4.out.trans (h2.mono BB4.out.size), hnx.out, by have := HI.out.len; have := (itemP_size HIY.out).1; rw [insP_len]; omega, HNQ.out⟩
                  have HNEW := Lib.hid hnew
                  clear htk hen hlt hk hTl hnew
                  obtain ⟨y0, y1, y2', y3, y4⟩ := pb_facts PX.out
                  cases T2 with
                  | true =>
                    have hE2 : T1 = insP p acc := by have := HEN.out; simpa using this
                    subst hE2
                    go_wp2_with fail
                    go_roundg y2.size
                    case measure => have := (itemP_size HIY.out).1; omega
                    case rel => exact ⟨insP p acc, y2, Nat.le_refl _, Lib.hid (HNEW.out _ _ OM.out BM.out)⟩
                  | false =>
                    have hE2 : T1 ++ [p] = insP p acc := by have := HEN.out; simpa using this
                    have HE2 := Lib.hid hE2
                    clear hE2
                    go_wp2_with (at_builtin; refine app_own (w0 := w4) w4.heap.size 36 59 5 56 _ Tryd.underlying36 info_prop rfl (by decide) rfl (.tmp 84) (.tmp 86) rfl u8 _ T1.length 1 (T1.flatMap Prp.cells) (Prp.cells p) rfl rfl (OM.out.alloc _) (prop_new wr p) (cells_one [p]) (BM.out.alloc BM.out.size _) (by have := HTL.out; first | omega | (simp only [List.length_append, List.length_cons, List.length_nil]; omega)) (by have := HTL.out; first | omega | (simp only [List.length_append, List.length_cons, List.length_nil]; omega)) (by have := BM.out.size; simp; omega) ?_; intro v5 w5 o5 b5 g5 _; have O5 := Lib.hid o5; have B5 := Lib.hid b5; have G5 := Lib.hid g5; clear o5 b5 g5)
                    go_roundg y2.size
                    case measure => have := (itemP_size HIY.out).1; omega
                    case rel => exact ⟨insP p acc, y2, Nat.le_refl _, Lib.hid (HNEW.out _ _ (by rw [← HE2.out, List.length_append, List.flatMap_append]; have := O5.out; simpa using this) B5.out)⟩
end Go.Proofs.YtbniandbmabdbaaDoor

/- The reference's ReadHead. -/
namespace Go.Proofs.YtbniandbmabdbaaDoor
open Go Go.RowKit
set_option linter.unusedSimpArgs false
set_option linter.unusedVariables false

theorem xNum_yes {w : World} {R : Nat} {r r' : ByteArray} {k n : Nat} (z : Int) (hz : z = (n : Int)) (h : RX w R (some r)) (hn : numP k r = some (n, r')) (hk : k ≤ 8) (ki : Int) (hki : ki = k) :
    Calls Tryd.prog 24 #[.pointer (some ⟨R, 0, none⟩), .int .i64 ki] w fun e w' => e = .returned (.int .u64 z) ∧ RX w' R (some r') ∧ w.grownBy w' (some R) := by
  subst hz
  refine (xNumber_c h k hk ki hki).mono ?_
  rw [Option.bind_some, hn]
  rintro e w' ⟨he, hr, hg⟩
  exact ⟨he, hr, hg⟩
theorem xNum_no {w : World} {R : Nat} {r : ByteArray} {k : Nat} (h : RX w R (some r)) (hn : numP k r = none) (hk : k ≤ 8) (ki : Int) (hki : ki = k) :
    Calls Tryd.prog 24 #[.pointer (some ⟨R, 0, none⟩), .int .i64 ki] w fun e w' => e = .returned (.int .u64 0) ∧ RX w' R none ∧ w.grownBy w' (some R) := by
  refine (xNumber_c h k hk ki hki).mono ?_
  rw [Option.bind_some, hn]
  rintro e w' ⟨he, hr, hg⟩
  exact ⟨he, hr, hg⟩
theorem num_one {y : ByteArray} (h : y.size = 1) : ∃ m, numP 1 y = some (m, ByteArray.empty) ∧ (y = ⟨#[1]⟩ ↔ m = 1) ∧ (y = ⟨#[2]⟩ ↔ m = 2) := by
  have hl : y.data.toList.length = 1 := by rw [ba_size]; exact h
  obtain ⟨c, hc⟩ : ∃ c, y.data.toList = [c] := by
    cases hd : y.data.toList with
    | nil => rw [hd] at hl; cases hl
    | cons c r =>
      rw [hd] at hl
      cases r with
      | nil => exact ⟨c, rfl⟩
      | cons d r => simp at hl
  have hy : y = ⟨#[c]⟩ := ba_ext hc
  subst hy
  refine ⟨c.toNat, ?_, ⟨fun e => ?_, fun e => ?_⟩, ⟨fun e => ?_, fun e => ?_⟩⟩
  · rw [numP_at0 _ 1 (by rw [h]; exact Nat.le_refl _)]
    unfold fld
    rw [ext_one h, ext_all h]
    have : natB [c] = c.toNat := by simp [natB]
    exact congrArg (fun z => some (z, ByteArray.empty)) this
  · injection e with e; have e2 := congrArg Array.toList e; simp at e2; rw [e2]; rfl
  · rw [show c = 1 from UInt8.toNat_inj.1 e]
  · injection e with e; have e2 := congrArg Array.toList e; simp at e2; rw [e2]; rfl
  · rw [show c = 2 from UInt8.toNat_inj.1 e]
theorem ownP_rx {w w' : World} {B g : Nat} {v : Value} {ps : List Prp} {r : ByteArray} (h : OwnP w B v ps) (hr : RX w g (some r)) (hg : w.grownBy w' (some g)) : OwnP w' B v ps := by
  rcases h with h | ⟨b, cap, rfl, h0, h4, h1, h2, h3⟩
  · exact .inl h
  · by_cases hne : b = g
    · subst hne
      obtain ⟨_, d1, _, _⟩ := rr_facts (show RR w b r false from hr)
      cases ps with
      | nil => exact .inr ⟨b, cap, rfl, h0, Nat.lt_of_lt_of_le h4 hg.size, h1, h2, fun j hj => absurd hj (by simp [Sort.flatK])⟩
      | cons p ps =>
        obtain ⟨hj, hv⟩ := flatK_at (p :: ps) 1 (.int .i64 p.k) (by simp [Prp.cells])
        have hc := (h3 1 hj).1
        rw [hv, show 0 + 1 = 1 from rfl, d1] at hc
        exact absurd hc (by simp)
    · refine .inr ⟨b, cap, rfl, h0, Nat.lt_of_lt_of_le h4 hg.size, h1, h2, fun j hj => ?_⟩
      obtain ⟨a, c⟩ := h3 j hj
      have hb := hg.block b h4 (fun e => by injection e with e; exact hne e)
      exact ⟨(World.cell?_of_block (w := w) hb).trans a, (World.frozen?_of_block (w := w) hb).trans c⟩
theorem num_more {y : ByteArray} (h : 1 < y.size) : ∃ m r, numP 1 y = some (m, r) ∧ 0 < r.size := ⟨_, _, numP_at0 y 1 (by omega), by rw [ByteArray.size_extract]; omega⟩

set_option maxRecDepth 1000000 in
set_option maxHeartbeats 2000000 in
theorem rj_a {w : World} {s y1 y2 y3 y4 : ByteArray} {a b n f : Nat} (p1 : numP 2 s = some (a, y1)) (p2 : numP 2 y1 = some (b, y2)) (p3 : numP 8 y2 = some (n, y3)) (p4 : numP 2 y3 = some (f, y4)) (h4 : y4.size ≤ 1073741824) (za zb zn zf : Int) (hza : za = (a : Int)) (hzb : zb = (b : Int)) (hzn : zn = (n : Int)) (hzf : zf = (f : Int)) (h : a ≠ 60) (HP : rhP s = .err 11) :
    Calls Tryd.prog 17 #[.string s] w (RHPost w (rhP s)) := by
  have hb0 : Below w.heap.size w (w.alloc (.cells #[.string s, .bool false] 52)) := below_al1 _ _
  have R0 : RX (w.alloc (.cells #[.string s, .bool false] 52)) w.heap.size (some s) := heap_alloc_new w _
  have P2 := Lib.hid p2
  have P3 := Lib.hid p3
  have P4 := Lib.hid p4
  have H4 := Lib.hid h4
  have HB0 := Lib.hid hb0
  have N1 := Lib.hid (xNum_yes za hza R0 p1 (by omega) 2 rfl)
  clear p1 p2 p3 p4 h4 hb0 R0
  have HPH := Lib.hid HP
  have h1 : (za != 60) = true := by rw [bne_iff_ne]; omega
  have HZ := Lib.hid (show zb = b ∧ zn = n ∧ zf = f from ⟨hzb, hzn, hzf⟩)
  clear h hza hzb hzn hzf HP
  go_enter Tryd.func17, Tryd.ntmps17
  go_wp2_with fail
  refine (N1.out).mono ?_
  rintro e w1 ⟨rfl, r1, g1⟩
  have N2 := Lib.hid (xNum_yes zb HZ.out.1 r1 P2.out (by omega) 2 rfl)
  clear r1
  go_wp2_with fail
  refine (N2.out).mono ?_
  rintro e w2 ⟨rfl, r2, g2⟩
  have N3 := Lib.hid (xNum_yes zn HZ.out.2.1 r2 P3.out (by omega) 8 rfl)
  clear r2 N2
  go_wp2_with fail
  refine (N3.out).mono ?_
  rintro e w3 ⟨rfl, r3, g3⟩
  have N4 := Lib.hid (xNum_yes zf HZ.out.2.2 r3 P4.out (by omega) 2 rfl)
  clear r3 N3
  go_wp2_with fail
  refine (N4.out).mono ?_
  rintro e w4 ⟨rfl, r4, g4⟩
  have R4 := Lib.hid r4
  have G4 := Lib.hid (g1.trans (g2.trans (g3.trans g4)))
  have B4 := Lib.hid (below_grown HB0.out G4.out (Nat.le_refl _) HB0.out.size)
  obtain ⟨d0, d1, _, _⟩ := rr_facts (show RR w4 w.heap.size y4 false from r4)
  clear r4 N4 g1 g2 g3 g4
  go_wp2_with fail
  exact bodyPost_ret (v := .tuple #[.int .i64 0, .slice none 0 0, .bool false, .int .i64 11]) (by simp [results, Tryd.results17, go_sem]) rfl (rh_err HPH.out B4.out)

set_option maxRecDepth 1000000 in
set_option maxHeartbeats 2000000 in
theorem rj_b {w : World} {s y1 y2 y3 y4 : ByteArray} {a b n f : Nat} (p1 : numP 2 s = some (a, y1)) (p2 : numP 2 y1 = some (b, y2)) (p3 : numP 8 y2 = some (n, y3)) (p4 : numP 2 y3 = some (f, y4)) (h4 : y4.size ≤ 1073741824) (zb zn zf : Int) (hzb : zb = (b : Int)) (hzn : zn = (n : Int)) (hzf : zf = (f : Int)) (h : a = 60) (h2 : b ≠ 0) (HP : rhP s = .err 11) :
    Calls Tryd.prog 17 #[.string s] w (RHPost w (rhP s)) := by
  have hb0 : Below w.heap.size w (w.alloc (.cells #[.string s, .bool false] 52)) := below_al1 _ _
  have R0 : RX (w.alloc (.cells #[.string s, .bool false] 52)) w.heap.size (some s) := heap_alloc_new w _
  have P2 := Lib.hid p2
  have P3 := Lib.hid p3
  have P4 := Lib.hid p4
  have H4 := Lib.hid h4
  have HB0 := Lib.hid hb0
  have N1 := Lib.hid (xNum_yes 60 (by omega) R0 p1 (by omega) 2 rfl)
  clear p1 p2 p3 p4 h4 hb0 R0
  have HPH := Lib.hid HP
  have h1 : (zb != 0) = true := by rw [bne_iff_ne]; omega
  have HZ := Lib.hid (show zb = b ∧ zn = n ∧ zf = f from ⟨hzb, hzn, hzf⟩)
  clear h h2 hzb hzn hzf HP
  go_enter Tryd.func17, Tryd.ntmps17
  go_wp2_with fail
  refine (N1.out).mono ?_
  rintro e w1 ⟨rfl, r1, g1⟩
  have N2 := Lib.hid (xNum_yes zb HZ.out.1 r1 P2.out (by omega) 2 rfl)
  clear r1
  go_wp2_with fail
  refine (N2.out).mono ?_
  rintro e w2 ⟨rfl, r2, g2⟩
  have N3 := Lib.hid (xNum_yes zn HZ.out.2.1 r2 P3.out (by omega) 8 rfl)
  clear r2 N2
  go_wp2_with fail
  refine (N3.out).mono ?_
  rintro e w3 ⟨rfl, r3, g3⟩
  have N4 := Lib.hid (xNum_yes zf HZ.out.2.2 r3 P4.out (by omega) 2 rfl)
  clear r3 N3
  go_wp2_with fail
  refine (N4.out).mono ?_
  rintro e w4 ⟨rfl, r4, g4⟩
  have R4 := Lib.hid r4
  have G4 := Lib.hid (g1.trans (g2.trans (g3.trans g4)))
  have B4 := Lib.hid (below_grown HB0.out G4.out (Nat.le_refl _) HB0.out.size)
  obtain ⟨d0, d1, _, _⟩ := rr_facts (show RR w4 w.heap.size y4 false from r4)
  clear r4 N4 g1 g2 g3 g4
  go_wp2_with fail
  exact bodyPost_ret (v := .tuple #[.int .i64 0, .slice none 0 0, .bool false, .int .i64 11]) (by simp [results, Tryd.results17, go_sem]) rfl (rh_err HPH.out B4.out)

set_option maxRecDepth 1000000 in
set_option maxHeartbeats 2000000 in
theorem rj_f {w : World} {s y1 y2 y3 y4 : ByteArray} {a b n f : Nat} (p1 : numP 2 s = some (a, y1)) (p2 : numP 2 y1 = some (b, y2)) (p3 : numP 8 y2 = some (n, y3)) (p4 : numP 2 y3 = some (f, y4)) (h4 : y4.size ≤ 1073741824) (zn zf : Int) (hzn : zn = (n : Int)) (hzf : zf = (f : Int)) (h : a = 60) (h2 : b = 0) (q0 : f ≠ 0) (q1 : f ≠ 4096) (q2 : f ≠ 8192) (q3 : f ≠ 12288) (HP : rhP s = .err 11) :
    Calls Tryd.prog 17 #[.string s] w (RHPost w (rhP s)) := by
  have hb0 : Below w.heap.size w (w.alloc (.cells #[.string s, .bool false] 52)) := below_al1 _ _
  have R0 : RX (w.alloc (.cells #[.string s, .bool false] 52)) w.heap.size (some s) := heap_alloc_new w _
  have P2 := Lib.hid p2
  have P3 := Lib.hid p3
  have P4 := Lib.hid p4
  have H4 := Lib.hid h4
  have HB0 := Lib.hid hb0
  have N1 := Lib.hid (xNum_yes 60 (by omega) R0 p1 (by omega) 2 rfl)
  clear p1 p2 p3 p4 h4 hb0 R0
  have HPH := Lib.hid HP
  have h1 : (zf != 0) = true := by rw [bne_iff_ne]; omega
  have h3 : (zf != 4096) = true := by rw [bne_iff_ne]; omega
  have h5 : (zf != 8192) = true := by rw [bne_iff_ne]; omega
  have h6 : (zf != 12288) = true := by rw [bne_iff_ne]; omega
  have HZ := Lib.hid (show (0 : Int) = b ∧ zn = n ∧ zf = f from ⟨by omega, hzn, hzf⟩)
  clear h h2 hzn hzf HP q0 q1 q2 q3
  go_enter Tryd.func17, Tryd.ntmps17
  go_wp2_with fail
  refine (N1.out).mono ?_
  rintro e w1 ⟨rfl, r1, g1⟩
  have N2 := Lib.hid (xNum_yes 0 HZ.out.1 r1 P2.out (by omega) 2 rfl)
  clear r1
  go_wp2_with fail
  refine (N2.out).mono ?_
  rintro e w2 ⟨rfl, r2, g2⟩
  have N3 := Lib.hid (xNum_yes zn HZ.out.2.1 r2 P3.out (by omega) 8 rfl)
  clear r2 N2
  go_wp2_with fail
  refine (N3.out).mono ?_
  rintro e w3 ⟨rfl, r3, g3⟩
  have N4 := Lib.hid (xNum_yes zf HZ.out.2.2 r3 P4.out (by omega) 2 rfl)
  clear r3 N3
  go_wp2_with fail
  refine (N4.out).mono ?_
  rintro e w4 ⟨rfl, r4, g4⟩
  have R4 := Lib.hid r4
  have G4 := Lib.hid (g1.trans (g2.trans (g3.trans g4)))
  have B4 := Lib.hid (below_grown HB0.out G4.out (Nat.le_refl _) HB0.out.size)
  obtain ⟨d0, d1, _, _⟩ := rr_facts (show RR w4 w.heap.size y4 false from r4)
  clear r4 N4 g1 g2 g3 g4
  go_wp2_with fail
  exact bodyPost_ret (v := .tuple #[.int .i64 0, .slice none 0 0, .bool false, .int .i64 11]) (by simp [results, Tryd.results17, go_sem]) rfl (rh_err HPH.out B4.out)

set_option maxRecDepth 1000000 in
set_option maxHeartbeats 2000000 in
theorem rj_0 {w : World} {s y1 y2 y3 y4 : ByteArray} {a b n f : Nat} (p1 : numP 2 s = some (a, y1)) (p2 : numP 2 y1 = some (b, y2)) (p3 : numP 8 y2 = some (n, y3)) (p4 : numP 2 y3 = some (f, y4)) (h4 : y4.size ≤ 1073741824) (zn : Int) (hzn : zn = (n : Int)) (h : a = 60) (h2 : b = 0) (hf : f = 0) (HP : rhP s = rh2 n 0 [] y4) :
    Calls Tryd.prog 17 #[.string s] w (RHPost w (rhP s)) := by
  have hb0 : Below w.heap.size w (w.alloc (.cells #[.string s, .bool false] 52)) := below_al1 _ _
  have R0 : RX (w.alloc (.cells #[.string s, .bool false] 52)) w.heap.size (some s) := heap_alloc_new w _
  have P2 := Lib.hid p2
  have P3 := Lib.hid p3
  have P4 := Lib.hid p4
  have H4 := Lib.hid h4
  have HB0 := Lib.hid hb0
  have N1 := Lib.hid (xNum_yes 60 (by omega) R0 p1 (by omega) 2 rfl)
  clear p1 p2 p3 p4 h4 hb0 R0
  have HN := Lib.hid hzn
  have HP0 := Lib.hid HP
  have HZ := Lib.hid (show (0 : Int) = b ∧ (0 : Int) = f from ⟨by omega, by omega⟩)
  clear h h2 hf hzn HP
  go_enter Tryd.func17, Tryd.ntmps17
  go_wp2_with fail
  refine (N1.out).mono ?_
  rintro e w1 ⟨rfl, r1, g1⟩
  have N2 := Lib.hid (xNum_yes 0 HZ.out.1 r1 P2.out (by omega) 2 rfl)
  clear r1
  go_wp2_with fail
  refine (N2.out).mono ?_
  rintro e w2 ⟨rfl, r2, g2⟩
  have N3 := Lib.hid (xNum_yes zn HN.out r2 P3.out (by omega) 8 rfl)
  clear r2 N2
  go_wp2_with fail
  refine (N3.out).mono ?_
  rintro e w3 ⟨rfl, r3, g3⟩
  have N4 := Lib.hid (xNum_yes 0 HZ.out.2 r3 P4.out (by omega) 2 rfl)
  clear r3 N3
  go_wp2_with fail
  refine (N4.out).mono ?_
  rintro e w4 ⟨rfl, r4, g4⟩
  have R4 := Lib.hid r4
  have G4 := Lib.hid (g1.trans (g2.trans (g3.trans g4)))
  have B4 := Lib.hid (below_grown HB0.out G4.out (Nat.le_refl _) HB0.out.size)
  obtain ⟨d0, d1, _, _⟩ := rr_facts (show RR w4 w.heap.size y4 false from r4)
  clear r4 N4 g1 g2 g3 g4
  have hp := HP0
  by_cases hr : y4.size = 0
  · obtain rfl := ba_nil hr
    by_cases hn : n ≤ 1024
    · have HP := Lib.hid (hp.out.trans (rh2_p (by decide) hr hn))
      have k1 : zn ≤ 1024 := by have := HN.out; omega
      have k0 : 0 ≤ zn := by have := HN.out; omega
      clear hn
      go_wp2_with fail
      exact bodyPost_ret (v := .tuple #[.int .i64 zn, .slice none 0 0, .bool false, .int .i64 0]) (by simp [results, Tryd.results17, go_sem]) rfl (by rw [HN.out]; exact rh_ok HP.out B4.out (.inl ⟨rfl, rfl⟩))
    · have HP := Lib.hid (hp.out.trans (rh2_pbig (by decide) hr hn))
      have k1 : 1024 < zn := by have := HN.out; omega
      clear hn
      go_wp2_with fail
      exact bodyPost_ret (v := .tuple #[.int .i64 0, .slice none 0 0, .bool false, .int .i64 3]) (by simp [results, Tryd.results17, go_sem]) rfl (rh_err HP.out B4.out)
  · have HP := Lib.hid (hp.out.trans (rh2_pbad (by decide) hr))
    have hE := ne_nil y4 (by omega)
    clear hr
    go_wp2_with fail
    exact bodyPost_ret (v := .tuple #[.int .i64 0, .slice none 0 0, .bool false, .int .i64 11]) (by simp [results, Tryd.results17, go_sem]) rfl (rh_err HP.out B4.out)

set_option maxRecDepth 1000000 in
set_option maxHeartbeats 2000000 in
theorem rj_4096 {w : World} {s y1 y2 y3 y4 : ByteArray} {a b n f : Nat} (p1 : numP 2 s = some (a, y1)) (p2 : numP 2 y1 = some (b, y2)) (p3 : numP 8 y2 = some (n, y3)) (p4 : numP 2 y3 = some (f, y4)) (h4 : y4.size ≤ 1073741824) (zn : Int) (hzn : zn = (n : Int)) (h : a = 60) (h2 : b = 0) (hf : f = 4096) (HP : rhP s = rh2 n 4096 [] y4) :
    Calls Tryd.prog 17 #[.string s] w (RHPost w (rhP s)) := by
  have hb0 : Below w.heap.size w (w.alloc (.cells #[.string s, .bool false] 52)) := below_al1 _ _
  have R0 : RX (w.alloc (.cells #[.string s, .bool false] 52)) w.heap.size (some s) := heap_alloc_new w _
  have P2 := Lib.hid p2
  have P3 := Lib.hid p3
  have P4 := Lib.hid p4
  have H4 := Lib.hid h4
  have HB0 := Lib.hid hb0
  have N1 := Lib.hid (xNum_yes 60 (by omega) R0 p1 (by omega) 2 rfl)
  clear p1 p2 p3 p4 h4 hb0 R0
  have HN := Lib.hid hzn
  have HP0 := Lib.hid HP
  have HZ := Lib.hid (show (0 : Int) = b ∧ (4096 : Int) = f from ⟨by omega, by omega⟩)
  clear h h2 hf hzn HP
  go_enter Tryd.func17, Tryd.ntmps17
  go_wp2_with fail
  refine (N1.out).mono ?_
  rintro e w1 ⟨rfl, r1, g1⟩
  have N2 := Lib.hid (xNum_yes 0 HZ.out.1 r1 P2.out (by omega) 2 rfl)
  clear r1
  go_wp2_with fail
  refine (N2.out).mono ?_
  rintro e w2 ⟨rfl, r2, g2⟩
  have N3 := Lib.hid (xNum_yes zn HN.out r2 P3.out (by omega) 8 rfl)
  clear r2 N2
  go_wp2_with fail
  refine (N3.out).mono ?_
  rintro e w3 ⟨rfl, r3, g3⟩
  have N4 := Lib.hid (xNum_yes 4096 HZ.out.2 r3 P4.out (by omega) 2 rfl)
  clear r3 N3
  go_wp2_with fail
  refine (N4.out).mono ?_
  rintro e w4 ⟨rfl, r4, g4⟩
  have R4 := Lib.hid r4
  have G4 := Lib.hid (g1.trans (g2.trans (g3.trans g4)))
  have B4 := Lib.hid (below_grown HB0.out G4.out (Nat.le_refl _) HB0.out.size)
  obtain ⟨d0, d1, _, _⟩ := rr_facts (show RR w4 w.heap.size y4 false from r4)
  clear r4 N4 g1 g2 g3 g4
  have hp := HP0
  by_cases hr0 : y4.size = 0
  · have HP := Lib.hid (hp.out.trans (rh2_mbad (by decide) (by omega)))
    have NM := Lib.hid (xNum_no R4.out (show numP 1 y4 = none by unfold numP takeP; rw [if_neg (by omega)]; rfl) (by omega) 1 rfl)
    clear hr0
    go_wp2_with fail
    refine (NM.out).mono ?_
    rintro e w9 ⟨rfl, ⟨s9, r9⟩, g9⟩
    obtain ⟨d0, d1, _, _⟩ := rr_facts r9
    have B9 := Lib.hid (below_grown B4.out g9 (Nat.le_refl _) B4.out.size)
    clear r9 g9
    go_wp2_with fail
    exact bodyPost_ret (v := .tuple #[.int .i64 0, .slice none 0 0, .bool false, .int .i64 11]) (by simp [results, Tryd.results17, go_sem]) rfl (rh_err HP.out B9.out)
  by_cases hr1 : y4.size = 1
  · obtain ⟨m, hm, he1, he2⟩ := num_one hr1
    obtain ⟨zm, hzm⟩ : ∃ zm : Int, zm = m := ⟨_, rfl⟩
    have NM := Lib.hid (xNum_yes zm hzm R4.out hm (by omega) 1 rfl)
    have HZM := Lib.hid hzm
    have HE1 := Lib.hid he1
    have HE2 := Lib.hid he2
    have HR1 := Lib.hid hr1
    clear hm hzm he1 he2 hr0 hr1
    go_wp2_with fail
    refine (NM.out).mono ?_
    rintro e w9 ⟨rfl, r9, g9⟩
    obtain ⟨d0, d1, _, _⟩ := rr_facts (show RR w9 w.heap.size ByteArray.empty false from r9)
    have B9 := Lib.hid (below_grown B4.out g9 (Nat.le_refl _) B4.out.size)
    have G9 := Lib.hid g9
    clear r9 g9
    by_cases hm1 : m = 1
    · obtain rfl : zm = 1 := by have := HZM.out; omega
      by_cases hn : n ≤ 1024
      · have HP := Lib.hid (hp.out.trans (rh2_m1 (by decide) HR1.out (HE1.out.2 hm1) hn))
        have k1 : zn ≤ 1024 := by have := HN.out; omega
        have k0 : 0 ≤ zn := by have := HN.out; omega
        clear hn hm1
        go_wp2_with fail
        exact bodyPost_ret (v := .tuple #[.int .i64 zn, .slice none 0 0, .bool false, .int .i64 0]) (by simp [results, Tryd.results17, go_sem]) rfl (by rw [HN.out]; exact rh_ok HP.out B9.out (.inl ⟨rfl, rfl⟩))
      · have HP := Lib.hid (hp.out.trans (rh2_mbig (by decide) HR1.out (.inl (HE1.out.2 hm1)) hn))
        have k1 : 1024 < zn := by have := HN.out; omega
        clear hn hm1
        go_wp2_with fail
        exact bodyPost_ret (v := .tuple #[.int .i64 0, .slice none 0 0, .bool false, .int .i64 3]) (by simp [results, Tryd.results17, go_sem]) rfl (rh_err HP.out B9.out)
    by_cases hm2 : m = 2
    · obtain rfl : zm = 2 := by have := HZM.out; omega
      by_cases hn : n ≤ 1024
      · have HP := Lib.hid (hp.out.trans (rh2_m2 (by decide) HR1.out (HE2.out.2 hm2) hn))
        have k1 : zn ≤ 1024 := by have := HN.out; omega
        have k0 : 0 ≤ zn := by have := HN.out; omega
        clear hn hm1 hm2
        go_wp2_with fail
        exact bodyPost_ret (v := .tuple #[.int .i64 zn, .slice none 0 0, .bool true, .int .i64 0]) (by simp [results, Tryd.results17, go_sem]) rfl (by rw [HN.out]; exact rh_ok HP.out B9.out (.inl ⟨rfl, rfl⟩))
      · have HP := Lib.hid (hp.out.trans (rh2_mbig (by decide) HR1.out (.inr (HE2.out.2 hm2)) hn))
        have k1 : 1024 < zn := by have := HN.out; omega
        clear hn hm1 hm2
        go_wp2_with fail
        exact bodyPost_ret (v := .tuple #[.int .i64 0, .slice none 0 0, .bool false, .int .i64 3]) (by simp [results, Tryd.results17, go_sem]) rfl (rh_err HP.out B9.out)
    · by_cases hm3 : m < 1
      · have HP := Lib.hid (hp.out.trans (rh2_mbad (by decide) (fun h => by rcases h.2 with h | h; exact hm1 (HE1.out.1 h); exact hm2 (HE2.out.1 h))))
        have k3 : zm < 1 := by have := HZM.out; omega
        clear hm1 hm2 hm3
        go_wp2_with fail
        exact bodyPost_ret (v := .tuple #[.int .i64 0, .slice none 0 0, .bool false, .int .i64 11]) (by simp [results, Tryd.results17, go_sem]) rfl (rh_err HP.out B9.out)
      · have HP := Lib.hid (hp.out.trans (rh2_mbad (by decide) (fun h => by rcases h.2 with h | h; exact hm1 (HE1.out.1 h); exact hm2 (HE2.out.1 h))))
        have k3 : 2 < zm := by have := HZM.out; omega
        clear hm1 hm2 hm3
        go_wp2_with fail
        exact bodyPost_ret (v := .tuple #[.int .i64 0, .slice none 0 0, .bool false, .int .i64 11]) (by simp [results, Tryd.results17, go_sem]) rfl (rh_err HP.out B9.out)
  · obtain ⟨m, r, hm, hmr⟩ := num_more (y := y4) (by omega)
    have HP := Lib.hid (hp.out.trans (rh2_mbad (by decide) (fun h => hr1 h.1)))
    obtain ⟨zm, hzm⟩ : ∃ zm : Int, zm = m := ⟨_, rfl⟩
    have NM := Lib.hid (xNum_yes zm hzm R4.out hm (by omega) 1 rfl)
    have hE := ne_nil r hmr
    clear hm hzm hmr hr0 hr1
    go_wp2_with fail
    refine (NM.out).mono ?_
    rintro e w9 ⟨rfl, r9, g9⟩
    obtain ⟨d0, d1, _, _⟩ := rr_facts (show RR w9 w.heap.size r false from r9)
    have B9 := Lib.hid (below_grown B4.out g9 (Nat.le_refl _) B4.out.size)
    clear r9 g9
    go_wp2_with fail
    exact bodyPost_ret (v := .tuple #[.int .i64 0, .slice none 0 0, .bool false, .int .i64 11]) (by simp [results, Tryd.results17, go_sem]) rfl (rh_err HP.out B9.out)

set_option maxRecDepth 1000000 in
set_option maxHeartbeats 2000000 in
theorem rj_8192n {w : World} {s y1 y2 y3 y4 : ByteArray} {a b n f : Nat} (p1 : numP 2 s = some (a, y1)) (p2 : numP 2 y1 = some (b, y2)) (p3 : numP 8 y2 = some (n, y3)) (p4 : numP 2 y3 = some (f, y4)) (h4 : y4.size ≤ 1073741824) (zn : Int) (hzn : zn = (n : Int)) (h : a = 60) (h2 : b = 0) (hf : f = 8192) (ht : tableP y4 = none) (HP : rhP s = .err 11) :
    Calls Tryd.prog 17 #[.string s] w (RHPost w (rhP s)) := by
  have hb0 : Below w.heap.size w (w.alloc (.cells #[.string s, .bool false] 52)) := below_al1 _ _
  have R0 : RX (w.alloc (.cells #[.string s, .bool false] 52)) w.heap.size (some s) := heap_alloc_new w _
  have P2 := Lib.hid p2
  have P3 := Lib.hid p3
  have P4 := Lib.hid p4
  have H4 := Lib.hid h4
  have HB0 := Lib.hid hb0
  have N1 := Lib.hid (xNum_yes 60 (by omega) R0 p1 (by omega) 2 rfl)
  clear p1 p2 p3 p4 h4 hb0 R0
  have HTN := Lib.hid ht
  have HN := Lib.hid hzn
  have HP0 := Lib.hid HP
  have HZ := Lib.hid (show (0 : Int) = b ∧ (8192 : Int) = f from ⟨by omega, by omega⟩)
  clear h h2 hf hzn HP ht
  go_enter Tryd.func17, Tryd.ntmps17
  go_wp2_with fail
  refine (N1.out).mono ?_
  rintro e w1 ⟨rfl, r1, g1⟩
  have N2 := Lib.hid (xNum_yes 0 HZ.out.1 r1 P2.out (by omega) 2 rfl)
  clear r1
  go_wp2_with fail
  refine (N2.out).mono ?_
  rintro e w2 ⟨rfl, r2, g2⟩
  have N3 := Lib.hid (xNum_yes zn HN.out r2 P3.out (by omega) 8 rfl)
  clear r2 N2
  go_wp2_with fail
  refine (N3.out).mono ?_
  rintro e w3 ⟨rfl, r3, g3⟩
  have N4 := Lib.hid (xNum_yes 8192 HZ.out.2 r3 P4.out (by omega) 2 rfl)
  clear r3 N3
  go_wp2_with fail
  refine (N4.out).mono ?_
  rintro e w4 ⟨rfl, r4, g4⟩
  have R4 := Lib.hid r4
  have G4 := Lib.hid (g1.trans (g2.trans (g3.trans g4)))
  have B4 := Lib.hid (below_grown HB0.out G4.out (Nat.le_refl _) HB0.out.size)
  obtain ⟨d0, d1, _, _⟩ := rr_facts (show RR w4 w.heap.size y4 false from r4)
  clear r4 N4 g1 g2 g3 g4
  have HTB := Lib.hid (refTable_c R4.out (fun s h => by injection h with h; rw [← h]; exact H4.out))
  rw [Option.bind_some, HTN.out] at HTB
  go_wp2_with fail
  refine (HTB.out).mono ?_
  rintro e w5 ⟨v, rfl, hv, ⟨s5, r5⟩, g5⟩
  have B5 := Lib.hid (below_grown B4.out g5 (Nat.le_refl _) B4.out.size)
  obtain ⟨d0, d1, _, _⟩ := rr_facts r5
  clear r5 g5 hv HTB
  go_wp2_with fail
  exact bodyPost_ret (v := .tuple #[.int .i64 0, .slice none 0 0, .bool false, .int .i64 11]) (by simp [results, Tryd.results17, go_sem]) rfl (rh_err HP0.out B5.out)

set_option maxRecDepth 1000000 in
set_option maxHeartbeats 2000000 in
theorem rj_8192s {w : World} {s y1 y2 y3 y4 : ByteArray} {a b n f : Nat} (p1 : numP 2 s = some (a, y1)) (p2 : numP 2 y1 = some (b, y2)) (p3 : numP 8 y2 = some (n, y3)) (p4 : numP 2 y3 = some (f, y4)) (h4 : y4.size ≤ 1073741824) (zn : Int) (hzn : zn = (n : Int)) (h : a = 60) (h2 : b = 0) (hf : f = 8192) {ps : List Prp} {r : ByteArray} (ht : tableP y4 = some (ps, r)) (HP : rhP s = rh2 n 8192 ps r) :
    Calls Tryd.prog 17 #[.string s] w (RHPost w (rhP s)) := by
  have hb0 : Below w.heap.size w (w.alloc (.cells #[.string s, .bool false] 52)) := below_al1 _ _
  have R0 : RX (w.alloc (.cells #[.string s, .bool false] 52)) w.heap.size (some s) := heap_alloc_new w _
  have P2 := Lib.hid p2
  have P3 := Lib.hid p3
  have P4 := Lib.hid p4
  have H4 := Lib.hid h4
  have HB0 := Lib.hid hb0
  have N1 := Lib.hid (xNum_yes 60 (by omega) R0 p1 (by omega) 2 rfl)
  clear p1 p2 p3 p4 h4 hb0 R0
  have HTN := Lib.hid ht
  have HN := Lib.hid hzn
  have HP0 := Lib.hid HP
  have HZ := Lib.hid (show (0 : Int) = b ∧ (8192 : Int) = f from ⟨by omega, by omega⟩)
  clear h h2 hf hzn HP ht
  go_enter Tryd.func17, Tryd.ntmps17
  go_wp2_with fail
  refine (N1.out).mono ?_
  rintro e w1 ⟨rfl, r1, g1⟩
  have N2 := Lib.hid (xNum_yes 0 HZ.out.1 r1 P2.out (by omega) 2 rfl)
  clear r1
  go_wp2_with fail
  refine (N2.out).mono ?_
  rintro e w2 ⟨rfl, r2, g2⟩
  have N3 := Lib.hid (xNum_yes zn HN.out r2 P3.out (by omega) 8 rfl)
  clear r2 N2
  go_wp2_with fail
  refine (N3.out).mono ?_
  rintro e w3 ⟨rfl, r3, g3⟩
  have N4 := Lib.hid (xNum_yes 8192 HZ.out.2 r3 P4.out (by omega) 2 rfl)
  clear r3 N3
  go_wp2_with fail
  refine (N4.out).mono ?_
  rintro e w4 ⟨rfl, r4, g4⟩
  have R4 := Lib.hid r4
  have G4 := Lib.hid (g1.trans (g2.trans (g3.trans g4)))
  have B4 := Lib.hid (below_grown HB0.out G4.out (Nat.le_refl _) HB0.out.size)
  obtain ⟨d0, d1, _, _⟩ := rr_facts (show RR w4 w.heap.size y4 false from r4)
  clear r4 N4 g1 g2 g3 g4
  have hp := HP0
  have HTB := Lib.hid (refTable_c R4.out (fun s h => by injection h with h; rw [← h]; exact H4.out))
  rw [Option.bind_some, HTN.out] at HTB
  go_wp2_with fail
  refine (HTB.out).mono ?_
  rintro e w5 ⟨v, rfl, hv, r5, g5⟩
  have B5 := Lib.hid (below_grown B4.out g5 (Nat.le_refl _) B4.out.size)
  have R5 := Lib.hid (show RX w5 w.heap.size (some r) from r5)
  have OV := Lib.hid (show OwnP w5 w.heap.size v ps from ownP_lower hv B4.out.size)
  obtain ⟨d0, d1, _, _⟩ := rr_facts (show RR w5 w.heap.size r false from r5)
  clear r5 g5 hv HTB
  obtain ⟨A, cc, rfl, _, _⟩ := rc_form' (ownP_rpr OV.out)
  by_cases hr : r.size = 0
  · obtain rfl := ba_nil hr
    by_cases hn : n ≤ 1024
    · have HP := Lib.hid (hp.out.trans (rh2_p (by decide) hr hn))
      have k1 : zn ≤ 1024 := by have := HN.out; omega
      have k0 : 0 ≤ zn := by have := HN.out; omega
      clear hn
      go_wp2_with fail
      exact bodyPost_ret (v := .tuple #[.int .i64 zn, .slice A ps.length cc, .bool false, .int .i64 0]) (by simp [results, Tryd.results17, go_sem]) rfl (by rw [HN.out]; exact rh_ok HP.out B5.out (OV.out))
    · have HP := Lib.hid (hp.out.trans (rh2_pbig (by decide) hr hn))
      have k1 : 1024 < zn := by have := HN.out; omega
      clear hn
      go_wp2_with fail
      exact bodyPost_ret (v := .tuple #[.int .i64 0, .slice none 0 0, .bool false, .int .i64 3]) (by simp [results, Tryd.results17, go_sem]) rfl (rh_err HP.out B5.out)
  · have HP := Lib.hid (hp.out.trans (rh2_pbad (by decide) hr))
    have hE := ne_nil r (by omega)
    clear hr
    go_wp2_with fail
    exact bodyPost_ret (v := .tuple #[.int .i64 0, .slice none 0 0, .bool false, .int .i64 11]) (by simp [results, Tryd.results17, go_sem]) rfl (rh_err HP.out B5.out)

set_option maxRecDepth 1000000 in
set_option maxHeartbeats 2000000 in
theorem rj_12288n {w : World} {s y1 y2 y3 y4 : ByteArray} {a b n f : Nat} (p1 : numP 2 s = some (a, y1)) (p2 : numP 2 y1 = some (b, y2)) (p3 : numP 8 y2 = some (n, y3)) (p4 : numP 2 y3 = some (f, y4)) (h4 : y4.size ≤ 1073741824) (zn : Int) (hzn : zn = (n : Int)) (h : a = 60) (h2 : b = 0) (hf : f = 12288) (ht : tableP y4 = none) (HP : rhP s = .err 11) :
    Calls Tryd.prog 17 #[.string s] w (RHPost w (rhP s)) := by
  have hb0 : Below w.heap.size w (w.alloc (.cells #[.string s, .bool false] 52)) := below_al1 _ _
  have R0 : RX (w.alloc (.cells #[.string s, .bool false] 52)) w.heap.size (some s) := heap_alloc_new w _
  have P2 := Lib.hid p2
  have P3 := Lib.hid p3
  have P4 := Lib.hid p4
  have H4 := Lib.hid h4
  have HB0 := Lib.hid hb0
  have N1 := Lib.hid (xNum_yes 60 (by omega) R0 p1 (by omega) 2 rfl)
  clear p1 p2 p3 p4 h4 hb0 R0
  have HTN := Lib.hid ht
  have HN := Lib.hid hzn
  have HP0 := Lib.hid HP
  have HZ := Lib.hid (show (0 : Int) = b ∧ (12288 : Int) = f from ⟨by omega, by omega⟩)
  clear h h2 hf hzn HP ht
  go_enter Tryd.func17, Tryd.ntmps17
  go_wp2_with fail
  refine (N1.out).mono ?_
  rintro e w1 ⟨rfl, r1, g1⟩
  have N2 := Lib.hid (xNum_yes 0 HZ.out.1 r1 P2.out (by omega) 2 rfl)
  clear r1
  go_wp2_with fail
  refine (N2.out).mono ?_
  rintro e w2 ⟨rfl, r2, g2⟩
  have N3 := Lib.hid (xNum_yes zn HN.out r2 P3.out (by omega) 8 rfl)
  clear r2 N2
  go_wp2_with fail
  refine (N3.out).mono ?_
  rintro e w3 ⟨rfl, r3, g3⟩
  have N4 := Lib.hid (xNum_yes 12288 HZ.out.2 r3 P4.out (by omega) 2 rfl)
  clear r3 N3
  go_wp2_with fail
  refine (N4.out).mono ?_
  rintro e w4 ⟨rfl, r4, g4⟩
  have R4 := Lib.hid r4
  have G4 := Lib.hid (g1.trans (g2.trans (g3.trans g4)))
  have B4 := Lib.hid (below_grown HB0.out G4.out (Nat.le_refl _) HB0.out.size)
  obtain ⟨d0, d1, _, _⟩ := rr_facts (show RR w4 w.heap.size y4 false from r4)
  clear r4 N4 g1 g2 g3 g4
  have HTB := Lib.hid (refTable_c R4.out (fun s h => by injection h with h; rw [← h]; exact H4.out))
  rw [Option.bind_some, HTN.out] at HTB
  go_wp2_with fail
  refine (HTB.out).mono ?_
  rintro e w5 ⟨v, rfl, hv, ⟨s5, r5⟩, g5⟩
  have B5 := Lib.hid (below_grown B4.out g5 (Nat.le_refl _) B4.out.size)
  have NM := Lib.hid (xNumber_c (o := none) ⟨s5, r5⟩ 1 (by omega) 1 rfl)
  clear r5 g5 hv HTB d0 d1
  rw [Option.bind_none] at NM
  go_wp2_with fail
  refine (NM.out).mono ?_
  rintro e w9 ⟨rfl, ⟨s9, r9⟩, g9⟩
  obtain ⟨d0, d1, _, _⟩ := rr_facts r9
  have B9 := Lib.hid (below_grown B5.out g9 (Nat.le_refl _) B5.out.size)
  clear r9 g9
  go_wp2_with fail
  exact bodyPost_ret (v := .tuple #[.int .i64 0, .slice none 0 0, .bool false, .int .i64 11]) (by simp [results, Tryd.results17, go_sem]) rfl (rh_err HP0.out B9.out)

set_option maxRecDepth 1000000 in
set_option maxHeartbeats 2000000 in
theorem rj_12288s {w : World} {s y1 y2 y3 y4 : ByteArray} {a b n f : Nat} (p1 : numP 2 s = some (a, y1)) (p2 : numP 2 y1 = some (b, y2)) (p3 : numP 8 y2 = some (n, y3)) (p4 : numP 2 y3 = some (f, y4)) (h4 : y4.size ≤ 1073741824) (zn : Int) (hzn : zn = (n : Int)) (h : a = 60) (h2 : b = 0) (hf : f = 12288) {ps : List Prp} {r : ByteArray} (ht : tableP y4 = some (ps, r)) (HP : rhP s = rh2 n 12288 ps r) :
    Calls Tryd.prog 17 #[.string s] w (RHPost w (rhP s)) := by
  have hb0 : Below w.heap.size w (w.alloc (.cells #[.string s, .bool false] 52)) := below_al1 _ _
  have R0 : RX (w.alloc (.cells #[.string s, .bool false] 52)) w.heap.size (some s) := heap_alloc_new w _
  have P2 := Lib.hid p2
  have P3 := Lib.hid p3
  have P4 := Lib.hid p4
  have H4 := Lib.hid h4
  have HB0 := Lib.hid hb0
  have N1 := Lib.hid (xNum_yes 60 (by omega) R0 p1 (by omega) 2 rfl)
  clear p1 p2 p3 p4 h4 hb0 R0
  have HTN := Lib.hid ht
  have HN := Lib.hid hzn
  have HP0 := Lib.hid HP
  have HZ := Lib.hid (show (0 : Int) = b ∧ (12288 : Int) = f from ⟨by omega, by omega⟩)
  clear h h2 hf hzn HP ht
  go_enter Tryd.func17, Tryd.ntmps17
  go_wp2_with fail
  refine (N1.out).mono ?_
  rintro e w1 ⟨rfl, r1, g1⟩
  have N2 := Lib.hid (xNum_yes 0 HZ.out.1 r1 P2.out (by omega) 2 rfl)
  clear r1
  go_wp2_with fail
  refine (N2.out).mono ?_
  rintro e w2 ⟨rfl, r2, g2⟩
  have N3 := Lib.hid (xNum_yes zn HN.out r2 P3.out (by omega) 8 rfl)
  clear r2 N2
  go_wp2_with fail
  refine (N3.out).mono ?_
  rintro e w3 ⟨rfl, r3, g3⟩
  have N4 := Lib.hid (xNum_yes 12288 HZ.out.2 r3 P4.out (by omega) 2 rfl)
  clear r3 N3
  go_wp2_with fail
  refine (N4.out).mono ?_
  rintro e w4 ⟨rfl, r4, g4⟩
  have R4 := Lib.hid r4
  have G4 := Lib.hid (g1.trans (g2.trans (g3.trans g4)))
  have B4 := Lib.hid (below_grown HB0.out G4.out (Nat.le_refl _) HB0.out.size)
  obtain ⟨d0, d1, _, _⟩ := rr_facts (show RR w4 w.heap.size y4 false from r4)
  clear r4 N4 g1 g2 g3 g4
  have hp := HP0
  have HTB := Lib.hid (refTable_c R4.out (fun s h => by injection h with h; rw [← h]; exact H4.out))
  rw [Option.bind_some, HTN.out] at HTB
  go_wp2_with fail
  refine (HTB.out).mono ?_
  rintro e w5 ⟨v, rfl, hv, r5, g5⟩
  have B5 := Lib.hid (below_grown B4.out g5 (Nat.le_refl _) B4.out.size)
  have R5 := Lib.hid (show RX w5 w.heap.size (some r) from r5)
  have OV := Lib.hid (show OwnP w5 w.heap.size v ps from ownP_lower hv B4.out.size)
  obtain ⟨d0, d1, _, _⟩ := rr_facts (show RR w5 w.heap.size r false from r5)
  clear r5 g5 hv HTB
  obtain ⟨A, cc, rfl, _, _⟩ := rc_form' (ownP_rpr OV.out)
  by_cases hr0 : r.size = 0
  · have HP := Lib.hid (hp.out.trans (rh2_mbad (by decide) (by omega)))
    have NM := Lib.hid (xNum_no R5.out (show numP 1 r = none by unfold numP takeP; rw [if_neg (by omega)]; rfl) (by omega) 1 rfl)
    clear hr0
    go_wp2_with fail
    refine (NM.out).mono ?_
    rintro e w9 ⟨rfl, ⟨s9, r9⟩, g9⟩
    obtain ⟨d0, d1, _, _⟩ := rr_facts r9
    have B9 := Lib.hid (below_grown B5.out g9 (Nat.le_refl _) B5.out.size)
    clear r9 g9
    go_wp2_with fail
    exact bodyPost_ret (v := .tuple #[.int .i64 0, .slice none 0 0, .bool false, .int .i64 11]) (by simp [results, Tryd.results17, go_sem]) rfl (rh_err HP.out B9.out)
  by_cases hr1 : r.size = 1
  · obtain ⟨m, hm, he1, he2⟩ := num_one hr1
    obtain ⟨zm, hzm⟩ : ∃ zm : Int, zm = m := ⟨_, rfl⟩
    have NM := Lib.hid (xNum_yes zm hzm R5.out hm (by omega) 1 rfl)
    have HZM := Lib.hid hzm
    have HE1 := Lib.hid he1
    have HE2 := Lib.hid he2
    have HR1 := Lib.hid hr1
    clear hm hzm he1 he2 hr0 hr1
    go_wp2_with fail
    refine (NM.out).mono ?_
    rintro e w9 ⟨rfl, r9, g9⟩
    obtain ⟨d0, d1, _, _⟩ := rr_facts (show RR w9 w.heap.size ByteArray.empty false from r9)
    have B9 := Lib.hid (below_grown B5.out g9 (Nat.le_refl _) B5.out.size)
    have G9 := Lib.hid g9
    clear r9 g9
    by_cases hm1 : m = 1
    · obtain rfl : zm = 1 := by have := HZM.out; omega
      by_cases hn : n ≤ 1024
      · have HP := Lib.hid (hp.out.trans (rh2_m1 (by decide) HR1.out (HE1.out.2 hm1) hn))
        have k1 : zn ≤ 1024 := by have := HN.out; omega
        have k0 : 0 ≤ zn := by have := HN.out; omega
        clear hn hm1
        go_wp2_with fail
        exact bodyPost_ret (v := .tuple #[.int .i64 zn, .slice A ps.length cc, .bool false, .int .i64 0]) (by simp [results, Tryd.results17, go_sem]) rfl (by rw [HN.out]; exact rh_ok HP.out B9.out (ownP_rx OV.out R5.out G9.out))
      · have HP := Lib.hid (hp.out.trans (rh2_mbig (by decide) HR1.out (.inl (HE1.out.2 hm1)) hn))
        have k1 : 1024 < zn := by have := HN.out; omega
        clear hn hm1
        go_wp2_with fail
        exact bodyPost_ret (v := .tuple #[.int .i64 0, .slice none 0 0, .bool false, .int .i64 3]) (by simp [results, Tryd.results17, go_sem]) rfl (rh_err HP.out B9.out)
    by_cases hm2 : m = 2
    · obtain rfl : zm = 2 := by have := HZM.out; omega
      by_cases hn : n ≤ 1024
      · have HP := Lib.hid (hp.out.trans (rh2_m2 (by decide) HR1.out (HE2.out.2 hm2) hn))
        have k1 : zn ≤ 1024 := by have := HN.out; omega
        have k0 : 0 ≤ zn := by have := HN.out; omega
        clear hn hm1 hm2
        go_wp2_with fail
        exact bodyPost_ret (v := .tuple #[.int .i64 zn, .slice A ps.length cc, .bool true, .int .i64 0]) (by simp [results, Tryd.results17, go_sem]) rfl (by rw [HN.out]; exact rh_ok HP.out B9.out (ownP_rx OV.out R5.out G9.out))
      · have HP := Lib.hid (hp.out.trans (rh2_mbig (by decide) HR1.out (.inr (HE2.out.2 hm2)) hn))
        have k1 : 1024 < zn := by have := HN.out; omega
        clear hn hm1 hm2
        go_wp2_with fail
        exact bodyPost_ret (v := .tuple #[.int .i64 0, .slice none 0 0, .bool false, .int .i64 3]) (by simp [results, Tryd.results17, go_sem]) rfl (rh_err HP.out B9.out)
    · by_cases hm3 : m < 1
      · have HP := Lib.hid (hp.out.trans (rh2_mbad (by decide) (fun h => by rcases h.2 with h | h; exact hm1 (HE1.out.1 h); exact hm2 (HE2.out.1 h))))
        have k3 : zm < 1 := by have := HZM.out; omega
        clear hm1 hm2 hm3
        go_wp2_with fail
        exact bodyPost_ret (v := .tuple #[.int .i64 0, .slice none 0 0, .bool false, .int .i64 11]) (by simp [results, Tryd.results17, go_sem]) rfl (rh_err HP.out B9.out)
      · have HP := Lib.hid (hp.out.trans (rh2_mbad (by decide) (fun h => by rcases h.2 with h | h; exact hm1 (HE1.out.1 h); exact hm2 (HE2.out.1 h))))
        have k3 : 2 < zm := by have := HZM.out; omega
        clear hm1 hm2 hm3
        go_wp2_with fail
        exact bodyPost_ret (v := .tuple #[.int .i64 0, .slice none 0 0, .bool false, .int .i64 11]) (by simp [results, Tryd.results17, go_sem]) rfl (rh_err HP.out B9.out)
  · obtain ⟨m, r, hm, hmr⟩ := num_more (y := r) (by omega)
    have HP := Lib.hid (hp.out.trans (rh2_mbad (by decide) (fun h => hr1 h.1)))
    obtain ⟨zm, hzm⟩ : ∃ zm : Int, zm = m := ⟨_, rfl⟩
    have NM := Lib.hid (xNum_yes zm hzm R5.out hm (by omega) 1 rfl)
    have hE := ne_nil r hmr
    clear hm hzm hmr hr0 hr1
    go_wp2_with fail
    refine (NM.out).mono ?_
    rintro e w9 ⟨rfl, r9, g9⟩
    obtain ⟨d0, d1, _, _⟩ := rr_facts (show RR w9 w.heap.size r false from r9)
    have B9 := Lib.hid (below_grown B5.out g9 (Nat.le_refl _) B5.out.size)
    clear r9 g9
    go_wp2_with fail
    exact bodyPost_ret (v := .tuple #[.int .i64 0, .slice none 0 0, .bool false, .int .i64 11]) (by simp [results, Tryd.results17, go_sem]) rfl (rh_err HP.out B9.out)

set_option maxRecDepth 1000000 in
set_option maxHeartbeats 2000000 in
theorem rj_short {w : World} {s : ByteArray} (h0 : s.size < 14) :
    Calls Tryd.prog 17 #[.string s] w (RHPost w (rhP s)) := by
  have hb0 : Below w.heap.size w (w.alloc (.cells #[.string s, .bool false] 52)) := below_al1 _ _
  have R0 : RX (w.alloc (.cells #[.string s, .bool false] 52)) w.heap.size (some s) := heap_alloc_new w _
  have HPH := Lib.hid (show rhP s = .err 11 by unfold rhP; rw [if_pos h0])
  have HNO := Lib.hid (num4_no h0)
  have HB0 := Lib.hid hb0
  have N1 := Lib.hid (xNumber_c R0 2 (by omega) 2 rfl)
  clear h0 hb0 R0
  go_enter Tryd.func17, Tryd.ntmps17
  go_wp2_with fail
  refine (N1.out).mono ?_
  rintro e w1 ⟨rfl, r1, g1⟩
  have N2 := Lib.hid (xNumber_c r1 2 (by omega) 2 rfl)
  clear r1 N1
  obtain ⟨z1, hz1⟩ : ∃ z, z = outX 0 ((some s).bind (numP 2)) := ⟨_, rfl⟩
  rw [← hz1]
  clear hz1
  go_wp2_with fail
  refine (N2.out).mono ?_
  rintro e w2 ⟨rfl, r2, g2⟩
  have N3 := Lib.hid (xNumber_c r2 8 (by omega) 8 rfl)
  clear r2 N2
  obtain ⟨z2, hz2⟩ : ∃ z, z = outX 0 ((leftX ((some s).bind (numP 2))).bind (numP 2)) := ⟨_, rfl⟩
  rw [← hz2]
  clear hz2
  go_wp2_with fail
  refine (N3.out).mono ?_
  rintro e w3 ⟨rfl, r3, g3⟩
  have N4 := Lib.hid (xNumber_c r3 2 (by omega) 2 rfl)
  clear r3 N3
  obtain ⟨z3, hz3⟩ : ∃ z, z = outX 0 ((leftX ((leftX ((some s).bind (numP 2))).bind (numP 2))).bind (numP 8)) := ⟨_, rfl⟩
  rw [← hz3]
  clear hz3
  go_wp2_with fail
  refine (N4.out).mono ?_
  rintro e w4 ⟨rfl, r4, g4⟩
  obtain ⟨z4, hz4⟩ : ∃ z, z = outX 0 ((leftX ((leftX ((leftX ((some s).bind (numP 2))).bind (numP 2))).bind (numP 8))).bind (numP 2)) := ⟨_, rfl⟩
  rw [← hz4]
  have R4 := Lib.hid (show RX w4 w.heap.size (num4 s) from r4)
  rw [HNO.out] at R4
  obtain ⟨s5, hr5⟩ := R4.out
  obtain ⟨d0, d1, _, _⟩ := rr_facts hr5
  have B4 := Lib.hid (below_grown HB0.out (g1.trans (g2.trans (g3.trans g4))) (Nat.le_refl _) HB0.out.size)
  clear r4 N4 g1 g2 g3 g4 hz4 hr5
  go_wp2_with fail
  exact bodyPost_ret (v := .tuple #[.int .i64 0, .slice none 0 0, .bool false, .int .i64 11]) (by simp [results, Tryd.results17, go_sem]) rfl (rh_err HPH.out B4.out)

theorem rhP_of {s : ByteArray} (h0 : ¬ s.size < 14) : rhP s = rhQ (fld s 0 2) (fld s 2 4) (fld s 4 12) (fld s 12 14) (s.extract 14 s.size) := by unfold rhP; rw [if_neg h0]
theorem refReadHead_c {w : World} (s : ByteArray) (hs : s.size ≤ 1073741824) :
    Calls Tryd.prog 17 #[.string s] w (RHPost w (rhP s)) := by
  by_cases h0 : s.size < 14
  · exact rj_short h0
  have hp := rhP_of h0
  have p1 := numP_at0 s 2 (by omega)
  have p2 : numP 2 (s.extract 2 s.size) = some (fld s 2 4, s.extract 4 s.size) := numP_at s 2 2 (by omega)
  have p3 : numP 8 (s.extract 4 s.size) = some (fld s 4 12, s.extract 12 s.size) := numP_at s 4 8 (by omega)
  have p4 : numP 2 (s.extract 12 s.size) = some (fld s 12 14, s.extract 14 s.size) := numP_at s 12 2 (by omega)
  have h4 : (s.extract 14 s.size).size ≤ 1073741824 := by rw [ByteArray.size_extract]; omega
  revert p1 p2 p3 p4 h4 hp
  generalize fld s 0 2 = a
  generalize fld s 2 4 = b
  generalize fld s 4 12 = n
  generalize fld s 12 14 = f
  generalize s.extract 2 s.size = y1
  generalize s.extract 4 s.size = y2
  generalize s.extract 12 s.size = y3
  generalize s.extract 14 s.size = y4
  intro hp p1 p2 p3 p4 h4
  unfold rhQ at hp
  by_cases ha : a = 60
  · rw [if_neg (fun h => h ha)] at hp
    by_cases hb : b = 0
    · rw [if_neg (fun h => h hb)] at hp
      by_cases f0 : f = 0
      · rw [if_pos (.inl f0), f0] at hp
        exact rj_0 p1 p2 p3 p4 h4 n rfl ha hb f0 hp
      by_cases f1 : f = 4096
      · rw [if_pos (.inr f1), f1] at hp
        exact rj_4096 p1 p2 p3 p4 h4 n rfl ha hb f1 hp
      rw [if_neg (by omega)] at hp
      by_cases f2 : f = 8192
      · rw [if_pos (.inl f2), f2] at hp
        cases ht : tableP y4 with
        | none => rw [ht] at hp; exact rj_8192n p1 p2 p3 p4 h4 n rfl ha hb f2 ht hp
        | some q => obtain ⟨ps, r⟩ := q; rw [ht] at hp; exact rj_8192s p1 p2 p3 p4 h4 n rfl ha hb f2 ht hp
      by_cases f3 : f = 12288
      · rw [if_pos (.inr f3), f3] at hp
        cases ht : tableP y4 with
        | none => rw [ht] at hp; exact rj_12288n p1 p2 p3 p4 h4 n rfl ha hb f3 ht hp
        | some q => obtain ⟨ps, r⟩ := q; rw [ht] at hp; exact rj_12288s p1 p2 p3 p4 h4 n rfl ha hb f3 ht hp
      rw [if_neg (by omega)] at hp
      exact rj_f p1 p2 p3 p4 h4 n f rfl rfl ha hb f0 f1 f2 f3 hp
    · rw [if_pos hb] at hp
      exact rj_b p1 p2 p3 p4 h4 b n f rfl rfl rfl ha hb hp
  · rw [if_pos ha] at hp
    exact rj_a p1 p2 p3 p4 h4 a b n f rfl rfl rfl rfl ha hp
end Go.Proofs.YtbniandbmabdbaaDoor

/- The reference's Big: it keeps what is no byte. -/
namespace Go.Proofs.YtbniandbmabdbaaDoor
open Go Go.RowKit
set_option linter.unusedSimpArgs false
set_option linter.unusedVariables false

set_option maxRecDepth 100000 in
set_option maxHeartbeats 1000000 in
theorem refBigK_c {w : World} {base : Nat} {v : Value} {l : List UInt8} (h : OB w base v l) (hB : base ≤ w.heap.size) (hl : l.length ≤ 70368744177664) (n : Nat) (hn : n < 18446744073709551616) (k : Nat) (hk : k ≤ 8) :
    Calls Tryd.prog 22 #[v, .int .u64 n, .int .i64 k] w fun e w' => ∃ v', e = .returned v' ∧ OB w' base v' (l ++ beB n k) ∧ Below base w w' ∧ KeepsT w w' := by
  have H := Lib.hid h
  clear h
  go_enter Tryd.func22, Tryd.ntmps22
  go_wp2
  go_loopw [0, 7] (fun x i wr => ∃ (m r : Nat) (pre : List UInt8), m + r = k ∧ i = .int .i64 m ∧ Hid (pre ++ beB n r = beB n k) ∧ Hid (OB wr base x (l ++ pre)) ∧ Hid (KeepsT w wr) ∧ Below base w wr) (fun _ i _ => k - (intOf i).toNat)
  case atStart => exact ⟨0, k, [], by omega, rfl, Lib.hid rfl, by simpa [Lib.hid] using H, Lib.hid (KeepsT.refl _), Below.refl _ _⟩
  case round =>
    obtain ⟨m, r, pre, hr, rfl, HP, O2, HK, b2⟩ := hrel
    cases r with
    | zero =>
      have hm : k ≤ m := by omega
      have hm2 : m ≤ k := by omega
      clear hr
      go_wp2
      go_ret
      have := HP.out
      simp only [beB, List.append_nil] at this
      exact ⟨_, rfl, by rw [← this]; exact O2.out, b2, HK.out⟩
    | succ r =>
      have hm : m < k := by omega
      have hpl : pre.length ≤ 8 := by
        have := congrArg List.length HP.out
        rw [List.length_append, beB_len, beB_len] at this
        omega
      have hs1 : (k : Int) - 1 - (m : Int) = (r : Int) := by omega
      clear hr
      go_wp2_with (at_builtin; refine app_b (w0 := w) (base := base) (l := l ++ pre) (m := [dig n r]) rfl (.tmp 13) (.tmp 23) rfl rfl rfl (O2.out.alloc _) (rb_dig wr _ _ (dig_val n r)) (b2.alloc (by have := b2.size; omega) _) (by have := b2.size; simp; omega) (by simp; omega) ?_; intro v4 w4 o4 b4 g4 _; have HK4 := Lib.hid ((HK.out.trans (keeps_alloc _ _)).trans (keeps_grown (O2.out.alloc _) g4)); have O4 := Lib.hid o4; clear o4 g4)
      go_roundw
      case rel => exact ⟨m + 1, r, pre ++ [dig n r], by omega, by go_num, Lib.hid (by have := HP.out; simpa [beB] using this), Lib.hid (by have := O4.out; rwa [List.append_assoc] at this), HK4, b4⟩
      case measure => simp [intOf]; omega


theorem refBigK_c2 {w : World} {base : Nat} {v : Value} {l : List UInt8} (h : OB w base v l) (hB : base ≤ w.heap.size) (hl : l.length ≤ 70368744177664) (n k : Nat) (hn : n < 18446744073709551616) (hk : k ≤ 8) (ni ki : Int) (hni : ni = (n : Int)) (hki : ki = (k : Int)) :
    Calls Tryd.prog 22 #[v, .int .u64 ni, .int .i64 ki] w fun e w' => ∃ v', e = .returned v' ∧ OB w' base v' (l ++ beB n k) ∧ Below base w w' ∧ KeepsT w w' := by
  subst hni hki
  exact refBigK_c h hB hl n hn k hk
end Go.Proofs.YtbniandbmabdbaaDoor

/- The reference's Narrow, the plain law: the 32 bits, by a float's own bits. -/
namespace Go.Proofs.YtbniandbmabdbaaDoor.FloatL
open Ieee
set_option linter.unusedSimpArgs false
set_option linter.unusedVariables false

theorem widen_word {s : Bool} {m : Nat} {e : Int} (hm0 : m ≠ 0) (hm : m < 2 ^ 24) (he0 : -149 ≤ e) (he1 : e ≤ 104) :
    double.write (.number s m e) = double.word s ((e + m.log2 + 1022).toNat * 2 ^ 52 + m * 2 ^ (52 - m.log2)) := by
  obtain ⟨l, hl⟩ : ∃ l, l = m.log2 := ⟨_, rfl⟩
  have h1 : 2 ^ l ≤ m := by rw [hl]; exact Nat.log2_self_le hm0
  have h2 : m < 2 ^ (l + 1) := by rw [hl]; exact Nat.lt_log2_self
  have hl23 : l ≤ 23 := by
    have := (Nat.log2_lt hm0).2 hm
    omega
  rw [← hl]
  have hM0 : 2 ^ 52 ≤ m * 2 ^ (52 - l) := by
    have : 2 ^ l * 2 ^ (52 - l) = 2 ^ 52 := by rw [← Nat.pow_add]; congr 1; omega
    rw [← this]
    exact Nat.mul_le_mul_right _ h1
  have hM1 : m * 2 ^ (52 - l) < 2 ^ 53 := by
    have : 2 ^ (l + 1) * 2 ^ (52 - l) = 2 ^ 53 := by rw [← Nat.pow_add]; congr 1; omega
    rw [← this]
    exact Nat.mul_lt_mul_of_pos_right h2 (Nat.pow_pos (by decide))
  show double.nearest s m e = _
  unfold Format.nearest
  rw [if_neg hm0, ← hl, D_least]
  dsimp only
  rw [show (double.fractionBits : Int) = 52 from rfl, show max (e + (l : Int) - 52) (-1074) = e + l - 52 by omega, show (e - (e + (l : Int) - 52)).toNat = 52 - l by omega, show (e + (l : Int) - 52 - e).toNat = 0 by omega, shl]
  have hcut : Toward.even.cut s (m * 2 ^ (52 - l)) 0 = m * 2 ^ (52 - l) := by
    unfold Toward.cut
    simp [Nat.mod_one]
  rw [hcut, D_bin, D_inf]
  obtain ⟨K, hK⟩ : ∃ K : Nat, (e + (l : Int) - 52 - -1074).toNat = K := ⟨_, rfl⟩
  rw [hK]
  have hK1 : 873 ≤ K := by omega
  have hK2 : K ≤ 1149 := by omega
  have hKe : e + (l : Int) - 52 = (K : Int) - 1074 := by omega
  generalize m * 2 ^ (52 - l) = M at *
  rw [Nat.min_eq_left (by omega), show (e + (l : Int) + 1022).toNat = K by omega]
theorem narrow_word {s : Bool} {m : Nat} {e : Int} (hm0 : m ≠ 0) (hm : m < 2 ^ 24) (he0 : -149 ≤ e) (he1 : e ≤ 104) (hn : 2 ^ 23 ≤ m ∨ e = -149) :
    single.write (.number s (m * 2 ^ (52 - m.log2)) (e + m.log2 - 52)) = single.word s ((e + 149).toNat * 2 ^ 23 + m) := by
  obtain ⟨l, hl⟩ : ∃ l, l = m.log2 := ⟨_, rfl⟩
  have h1 : 2 ^ l ≤ m := by rw [hl]; exact Nat.log2_self_le hm0
  have h2 : m < 2 ^ (l + 1) := by rw [hl]; exact Nat.lt_log2_self
  have hl23 : l ≤ 23 := by
    have := (Nat.log2_lt hm0).2 hm
    omega
  have hl23' : 2 ^ 23 ≤ m → l = 23 := fun h => by rw [hl]; exact log2_eq h hm
  rw [← hl]
  have hM0 : 2 ^ 52 ≤ m * 2 ^ (52 - l) := by
    have : 2 ^ l * 2 ^ (52 - l) = 2 ^ 52 := by rw [← Nat.pow_add]; congr 1; omega
    rw [← this]
    exact Nat.mul_le_mul_right _ h1
  have hM1 : m * 2 ^ (52 - l) < 2 ^ 53 := by
    have : 2 ^ (l + 1) * 2 ^ (52 - l) = 2 ^ 53 := by rw [← Nat.pow_add]; congr 1; omega
    rw [← this]
    exact Nat.mul_lt_mul_of_pos_right h2 (Nat.pow_pos (by decide))
  have hlog : (m * 2 ^ (52 - l)).log2 = 52 := log2_eq hM0 hM1
  have hMne : m * 2 ^ (52 - l) ≠ 0 := by omega
  show single.nearest s (m * 2 ^ (52 - l)) (e + l - 52) = _
  unfold Format.nearest
  rw [if_neg hMne, hlog, S_least]
  dsimp only
  have hmax : max (e + (l : Int) - 52 + ((52 : Nat) : Int) - ((single.fractionBits : Nat) : Int)) (-149) = e := by
    rw [show ((single.fractionBits : Nat) : Int) = 23 from rfl]
    rcases hn with h | h
    · rw [hl23' h]; omega
    · omega
  rw [hmax, show (e + (l : Int) - 52 - e).toNat = 0 by omega, shl, Nat.pow_zero, Nat.mul_one, show (e - (e + (l : Int) - 52)).toNat = 52 - l by omega]
  have hcut : Toward.even.cut s (m * 2 ^ (52 - l)) (52 - l) = m := by
    unfold Toward.cut
    dsimp only
    rw [hlog, Nat.min_eq_left (by omega), shl, Nat.one_mul]
    have hp : 0 < 2 ^ (52 - l) := Nat.pow_pos (by decide)
    rw [Nat.mul_div_cancel _ hp, Nat.mul_mod_left]
    simp
  rw [hcut, S_bin, S_inf]
  obtain ⟨K, hK⟩ : ∃ K : Nat, (e - -149).toNat = K := ⟨_, rfl⟩
  rw [hK]
  have hK2 : K ≤ 253 := by omega
  rw [Nat.min_eq_left (by omega), show (e + 149).toNat = K by omega]
theorem single_word_read {s : Bool} {m : Nat} {e : Int} (hm : m < 2 ^ 24) (he0 : -149 ≤ e) (he1 : e ≤ 104) (hn : 2 ^ 23 ≤ m ∨ e = -149) :
    single.read (single.word s ((e + 149).toNat * 2 ^ 23 + m)) = .number s m e := by
  obtain ⟨K, hK⟩ : ∃ K : Nat, (e + 149).toNat = K := ⟨_, rfl⟩
  rw [hK]
  have hK2 : K ≤ 253 := by omega
  have hKe : e = (K : Int) - 149 := by omega
  obtain ⟨r1, r2⟩ := read_word (f := single) (by decide) s (K * 2 ^ 23 + m) (by rw [S_sgn]; omega)
  unfold Format.read
  dsimp only
  rw [r1, r2, S_bin, S_inf, S_least]
  have hs : (s.toNat == 1) = s := by cases s <;> rfl
  rw [hs]
  by_cases h : 2 ^ 23 ≤ m
  · rw [if_neg (by omega), if_pos (by omega), show (K * 2 ^ 23 + m) / 2 ^ 23 - 1 = K by omega, show 2 ^ 23 + (K * 2 ^ 23 + m) % 2 ^ 23 = m by omega, hKe]
    congr 1 <;> omega
  · have hK0 : K = 0 := by omega
    subst hK0
    rw [if_pos (by omega), Nat.zero_mul, Nat.zero_add, hKe]
    rfl
end Go.Proofs.YtbniandbmabdbaaDoor.FloatL
namespace Go.Proofs.YtbniandbmabdbaaDoor
open Go Go.RowKit Ieee FloatL

theorem word_d (s : Bool) (r : Nat) : Ieee.double.word s r = s.toNat * 2 ^ 63 + r := by
  unfold Format.word
  rw [D_sgn]
  cases s <;> simp
theorem word_s (s : Bool) (r : Nat) : Ieee.single.word s r = s.toNat * 2 ^ 31 + r := by
  unfold Format.word
  rw [S_sgn]
  cases s <;> simp
theorem nar_hit {s : Bool} {m : Nat} {e : Int} (hm0 : m ≠ 0) (hm : m < 2 ^ 24) (he0 : -149 ≤ e) (he1 : e ≤ 104) (hn : 2 ^ 23 ≤ m ∨ e = -149) :
    narB (Ieee.double.write (.number s m e)) = some (Ieee.single.word s ((e + 149).toNat * 2 ^ 23 + m)) := by
  have hrd := widen_read (s := s) hm0 hm he0 he1
  have hw := narrow_word (s := s) hm0 hm he0 he1 hn
  have hsr := single_word_read (s := s) hm he0 he1 hn
  have ho : Ieee.double.order (Ieee.double.write (.number s m e)) (Ieee.double.write (.number s m e)) = some .eq := by
    unfold Format.order
    rw [hrd]
    simp [Ieee.Datum.order]
  have hnn : nanB (Ieee.double.write (.number s m e)) = false := by
    unfold nanB
    rw [show FloatKind.f64.format.order _ _ = some .eq from ho]
    rfl
  have hv : widenE (Ieee.single.word s ((e + 149).toNat * 2 ^ 23 + m)) = some (Ieee.double.write (.number s m e)) := by
    unfold widenE
    rw [hsr]
  rw [narB_some hnn hrd (by rw [hw, hsr]; rfl) (by rw [hw]; exact hv), if_pos ho, hw]
/-- The reference's answer, of a float that is no NaN: sign, exponent, fraction. -/
def refN (g x f : Nat) : Option Nat :=
  if x = 2047 then some (g * 2 ^ 31 + 2139095040)
  else if x = 0 ∧ f = 0 then some (g * 2 ^ 31)
  else if (897 ≤ x ∧ x ≤ 1150) ∧ f % 2 ^ 29 = 0 then some (g * 2 ^ 31 + (x - 896) * 2 ^ 23 + f / 2 ^ 29)
  else if (x < 897 ∧ 874 ≤ x) ∧ (f + 2 ^ 52) % 2 ^ (926 - x) = 0 then some (g * 2 ^ 31 + (f + 2 ^ 52) / 2 ^ (926 - x))
  else none
theorem nar_one {g x f : Nat} (hg : g < 2) (h0 : 897 ≤ x) (h1 : x ≤ 1150) (hf : f < 2 ^ 52) (hd : f % 2 ^ 29 = 0) : narB (g * 2 ^ 63 + x * 2 ^ 52 + f) = some (g * 2 ^ 31 + (x - 896) * 2 ^ 23 + f / 2 ^ 29) := by
  obtain ⟨s, hs⟩ : ∃ s : Bool, g = s.toNat := ⟨g == 1, by rcases (show g = 0 ∨ g = 1 by omega) with rfl | rfl <;> rfl⟩
  obtain ⟨q, hq⟩ : ∃ q, f = q * 2 ^ 29 := ⟨f / 2 ^ 29, by omega⟩
  have hq2 : q < 2 ^ 23 := by omega
  have hl : (2 ^ 23 + q).log2 = 23 := log2_eq (by omega) (by omega)
  have h := nar_hit (s := s) (m := 2 ^ 23 + q) (e := (x : Int) - 1046) (by omega) (by omega) (by omega) (by omega) (.inl (by omega))
  rw [widen_word (by omega) (by omega) (by omega) (by omega), hl, word_d, word_s] at h
  rw [show ((x : Int) - 1046 + ((23 : Nat) : Int) + 1022).toNat = x - 1 by omega, show ((x : Int) - 1046 + 149).toNat = x - 897 by omega, show (52 - 23 : Nat) = 29 from rfl] at h
  rw [show g * 2 ^ 63 + x * 2 ^ 52 + f = s.toNat * 2 ^ 63 + ((x - 1) * 2 ^ 52 + (2 ^ 23 + q) * 2 ^ 29) by rw [hs]; omega, h]
  exact congrArg some (by rw [hs]; omega)
theorem nar_two {g x f : Nat} (hg : g < 2) (h0 : 874 ≤ x) (h1 : x < 897) (hf : f < 2 ^ 52) (hd : (f + 2 ^ 52) % 2 ^ (926 - x) = 0) : narB (g * 2 ^ 63 + x * 2 ^ 52 + f) = some (g * 2 ^ 31 + (f + 2 ^ 52) / 2 ^ (926 - x)) := by
  obtain ⟨s, hs⟩ : ∃ s : Bool, g = s.toNat := ⟨g == 1, by rcases (show g = 0 ∨ g = 1 by omega) with rfl | rfl <;> rfl⟩
  obtain ⟨l, rfl⟩ : ∃ l, x = l + 874 := ⟨x - 874, by omega⟩
  have hl22 : l ≤ 22 := by omega
  rw [show 926 - (l + 874) = 52 - l by omega] at hd ⊢
  obtain ⟨q, hq⟩ : ∃ q, q = (f + 2 ^ 52) / 2 ^ (52 - l) := ⟨_, rfl⟩
  have hqm : q * 2 ^ (52 - l) = f + 2 ^ 52 := by rw [hq]; have := Nat.div_add_mod (f + 2 ^ 52) (2 ^ (52 - l)); rw [hd, Nat.add_zero, Nat.mul_comm] at this; exact this
  have hp : 2 ^ l * 2 ^ (52 - l) = 2 ^ 52 := by rw [← Nat.pow_add]; congr 1; omega
  have hp2 : 2 ^ (l + 1) * 2 ^ (52 - l) = 2 ^ 53 := by rw [← Nat.pow_add]; congr 1; omega
  have hpos : 0 < 2 ^ (52 - l) := Nat.two_pow_pos _
  have hq0 : 2 ^ l ≤ q := Nat.le_of_mul_le_mul_right (by rw [hp, hqm]; omega) hpos
  have hq1 : q < 2 ^ (l + 1) := Nat.lt_of_mul_lt_mul_right (a := 2 ^ (52 - l)) (by rw [hp2, hqm]; omega)
  have hlog : q.log2 = l := log2_eq hq0 hq1
  have hq24 : q < 2 ^ 23 := Nat.lt_of_lt_of_le hq1 (Nat.pow_le_pow_right (by omega) (by omega))
  have hqn : q ≠ 0 := by have := Nat.two_pow_pos l; omega
  have h := nar_hit (s := s) (m := q) (e := -149) hqn (by omega) (by omega) (by omega) (.inr rfl)
  rw [widen_word hqn (by omega) (by omega) (by omega), hlog, word_d, word_s, hqm] at h
  rw [show ((-149 : Int) + (l : Int) + 1022).toNat = l + 873 by omega, show ((-149 : Int) + 149).toNat = 0 from rfl] at h
  rw [show g * 2 ^ 63 + (l + 874) * 2 ^ 52 + f = s.toNat * 2 ^ 63 + ((l + 873) * 2 ^ 52 + (f + 2 ^ 52)) by rw [hs]; omega, h, ← hq]
  exact congrArg some (by rw [hs]; omega)
end Go.Proofs.YtbniandbmabdbaaDoor

/- The reference's Narrow, the plain law: the same as the program's. -/
namespace Go.Proofs.YtbniandbmabdbaaDoor
open Go Go.RowKit Ieee FloatL
set_option linter.unusedSimpArgs false
set_option linter.unusedVariables false

theorem nar_none {r n : Nat} (hr : r < 2 ^ 64) (hn : nanB r = false) (h : narB r = some n) {g x f : Nat} (hg : g < 2) (hx : x < 2048) (hf : f < 2 ^ 52) (hgr : r = g * 2 ^ 63 + x * 2 ^ 52 + f)
    (h1 : x ≠ 2047) (h2 : ¬ (x = 0 ∧ f = 0)) (h3 : ¬ ((897 ≤ x ∧ x ≤ 1150) ∧ f % 2 ^ 29 = 0)) (h4 : ¬ ((x < 897 ∧ 874 ≤ x) ∧ (f + 2 ^ 52) % 2 ^ (926 - x) = 0)) : False := by
  obtain ⟨v, hv, ho, hvl⟩ := narB_spec hn h
  rcases order_eq hvl hr ho with ⟨_, hz⟩ | hv2
  · omega
  · subst hv2
    unfold widenE at hv
    cases hrd : Ieee.single.read n with
    | nan s t => rw [hrd] at hv; cases hv
    | infinity s =>
      rw [hrd] at hv
      have hv' : Ieee.double.write (.infinity s) = v := Option.some.inj hv
      have : Ieee.double.write (.infinity s) = s.toNat * 2 ^ 63 + 2047 * 2 ^ 52 := by cases s <;> decide
      have hs : s.toNat < 2 := Bool.toNat_lt s
      omega
    | number s m e =>
      rw [hrd] at hv
      have hv' : Ieee.double.write (.number s m e) = v := Option.some.inj hv
      have hs : s.toNat < 2 := Bool.toNat_lt s
      have ff := S_fin hrd
      have hm : m < 2 ^ 24 := ff.mag
      have he0 : -149 ≤ e := by have := ff.low; rwa [S_least] at this
      have hno : 2 ^ 23 ≤ m ∨ e = -149 := by have := ff.norm; rwa [S_least] at this
      have he1 : e ≤ 104 := by
        have k1 := ff.rung
        have k2 := ff.top
        rw [k1, S_inf, S_bin, S_least] at k2
        rcases hno with k | k
        · omega
        · omega
      by_cases hm0 : m = 0
      · subst hm0
        have : Ieee.double.write (.number s 0 e) = s.toNat * 2 ^ 63 := by
          show Ieee.double.word s 0 = _
          rw [word_d]
          omega
        omega
      · have hw := widen_word (s := s) hm0 hm he0 he1
        rw [hv', word_d] at hw
        obtain ⟨l, hl⟩ : ∃ l, l = m.log2 := ⟨_, rfl⟩
        have g1 : 2 ^ l ≤ m := by rw [hl]; exact Nat.log2_self_le hm0
        have g2 : m < 2 ^ (l + 1) := by rw [hl]; exact Nat.lt_log2_self
        rw [← hl] at hw
        by_cases hb : 2 ^ 23 ≤ m
        · have hl23 : l = 23 := by rw [hl]; exact log2_eq hb hm
          subst hl23
          obtain ⟨K, hK⟩ : ∃ K : Nat, (e + ((23 : Nat) : Int) + 1022).toNat = K := ⟨_, rfl⟩
          rw [hK, show (52 - 23 : Nat) = 29 from rfl] at hw
          have hK0 : 896 ≤ K := by omega
          have hK1 : K ≤ 1149 := by omega
          exact h3 ⟨by omega, by omega⟩
        · have he : e = -149 := by omega
          have hl22 : l ≤ 22 := by
            have := (Nat.log2_lt hm0).2 (show m < 2 ^ 23 by omega)
            omega
          rw [he, show ((-149 : Int) + (l : Int) + 1022).toNat = l + 873 by omega] at hw
          have hp : 2 ^ l * 2 ^ (52 - l) = 2 ^ 52 := by rw [← Nat.pow_add]; congr 1; omega
          have hp2 : 2 ^ (l + 1) * 2 ^ (52 - l) = 2 ^ 53 := by rw [← Nat.pow_add]; congr 1; omega
          have hM0 : 2 ^ 52 ≤ m * 2 ^ (52 - l) := by rw [← hp]; exact Nat.mul_le_mul_right _ g1
          have hM1 : m * 2 ^ (52 - l) < 2 ^ 53 := by rw [← hp2]; exact Nat.mul_lt_mul_of_pos_right g2 (Nat.two_pow_pos _)
          have hMm : m * 2 ^ (52 - l) % 2 ^ (52 - l) = 0 := Nat.mul_mod_left _ _
          generalize hMM : m * 2 ^ (52 - l) = M at hw hM0 hM1 hMm
          have hx2 : x = l + 874 := by omega
          have hf2 : f + 2 ^ 52 = M := by omega
          refine h4 ⟨by omega, ?_⟩
          rw [hf2, hx2, show 926 - (l + 874) = 52 - l by omega]
          exact hMm
theorem narB_ref {r : Nat} (hr : r < 2 ^ 64) (hn : nanB r = false) : narB r = refN (r / 2 ^ 63) (r / 2 ^ 52 % 2048) (r % 2 ^ 52) := by
  have hb := nan_bits r
  rw [hn] at hb
  obtain ⟨g, hg⟩ : ∃ g, g = r / 2 ^ 63 := ⟨_, rfl⟩
  obtain ⟨x, hx⟩ : ∃ x, x = r / 2 ^ 52 % 2048 := ⟨_, rfl⟩
  obtain ⟨f, hf⟩ : ∃ f, f = r % 2 ^ 52 := ⟨_, rfl⟩
  rw [← hx, ← hf] at hb
  rw [← hg, ← hx, ← hf]
  have g2 : g < 2 := by omega
  have x2 : x < 2048 := by omega
  have f2 : f < 2 ^ 52 := by omega
  have hgr : r = g * 2 ^ 63 + x * 2 ^ 52 + f := by omega
  clear hg hx hf
  unfold refN
  by_cases h1 : x = 2047
  · rw [if_pos h1]
    subst h1
    have f0 : f = 0 := by
      rw [decide_eq_true rfl, Bool.true_and] at hb
      have := of_decide_eq_false hb.symm
      omega
    subst f0
    rcases (show g = 0 ∨ g = 1 by omega) with rfl | rfl
    · subst hgr; decide +kernel
    · subst hgr; decide +kernel
  · rw [if_neg h1]
    by_cases h2 : x = 0 ∧ f = 0
    · rw [if_pos h2]
      obtain ⟨rfl, rfl⟩ := h2
      rcases (show g = 0 ∨ g = 1 by omega) with rfl | rfl
      · subst hgr; decide +kernel
      · subst hgr; decide +kernel
    · rw [if_neg h2]
      by_cases h3 : (897 ≤ x ∧ x ≤ 1150) ∧ f % 2 ^ 29 = 0
      · rw [if_pos h3, hgr]
        exact nar_one g2 h3.1.1 h3.1.2 f2 h3.2
      · rw [if_neg h3]
        by_cases h4 : (x < 897 ∧ 874 ≤ x) ∧ (f + 2 ^ 52) % 2 ^ (926 - x) = 0
        · rw [if_pos h4, hgr]
          exact nar_two g2 h4.1.2 h4.1.1 f2 h4.2
        · rw [if_neg h4]
          cases hq : narB r with
          | none => rfl
          | some n => exact (nar_none hr hn hq g2 x2 f2 hgr h1 h2 h3 h4).elim
end Go.Proofs.YtbniandbmabdbaaDoor

/- The reference's Narrow: its walk. -/
namespace Go.Proofs.YtbniandbmabdbaaDoor
open Go Go.RowKit
set_option linter.unusedSimpArgs false
set_option linter.unusedVariables false

def nrV : Option Nat → Value
  | some n => .tuple #[.int .u32 n, .bool true]
  | none => .tuple #[.int .u32 0, .bool false]
/-- 'or' of numbers whose bits stand apart. -/
theorem or_apart32 (a b k : Nat) (hb : b < 2 ^ k) (hs : a * 2 ^ k + b < 4294967296) : bits BinOp.or IntKind.u32 ((a * 2 ^ k : Nat) : Int) (b : Int) = ((a * 2 ^ k + b : Nat) : Int) := by
  have e32 : IntKind.u32.bits = 32 := rfl
  have h3 : (a * 2 ^ k) ||| b = a * 2 ^ k + b := by
    have := Nat.shiftLeft_add_eq_or_of_lt hb a
    rw [Nat.shiftLeft_eq] at this
    exact this.symm
  have hm : (BitVec.ofInt IntKind.u32.bits ((a * 2 ^ k : Nat) : Int) ||| BitVec.ofInt IntKind.u32.bits (b : Int)).toNat = a * 2 ^ k + b := by
    rw [BitVec.toNat_or, BitVec.ofInt_natCast, BitVec.ofInt_natCast, BitVec.toNat_ofNat, BitVec.toNat_ofNat, e32, Nat.mod_eq_of_lt (by omega), Nat.mod_eq_of_lt (by omega), h3]
  show IntKind.u32.wrap (((BitVec.ofInt IntKind.u32.bits ((a * 2 ^ k : Nat) : Int) ||| BitVec.ofInt IntKind.u32.bits (b : Int)).toNat : Nat) : Int) = _
  rw [hm]
  show ((a * 2 ^ k + b : Nat) : Int) % 4294967296 = _
  omega
theorem or_apart64 (a b k : Nat) (hb : b < 2 ^ k) (hs : a * 2 ^ k + b < 18446744073709551616) : bits BinOp.or IntKind.u64 (b : Int) ((a * 2 ^ k : Nat) : Int) = ((a * 2 ^ k + b : Nat) : Int) := by
  have e64 : IntKind.u64.bits = 64 := rfl
  have h3 : b ||| (a * 2 ^ k) = a * 2 ^ k + b := by
    have := Nat.shiftLeft_add_eq_or_of_lt hb a
    rw [Nat.shiftLeft_eq] at this
    rw [Nat.or_comm]
    exact this.symm
  have hm : (BitVec.ofInt IntKind.u64.bits (b : Int) ||| BitVec.ofInt IntKind.u64.bits ((a * 2 ^ k : Nat) : Int)).toNat = a * 2 ^ k + b := by
    rw [BitVec.toNat_or, BitVec.ofInt_natCast, BitVec.ofInt_natCast, BitVec.toNat_ofNat, BitVec.toNat_ofNat, e64, Nat.mod_eq_of_lt (by omega), Nat.mod_eq_of_lt (by omega), h3]
  show IntKind.u64.wrap (((BitVec.ofInt IntKind.u64.bits (b : Int) ||| BitVec.ofInt IntKind.u64.bits ((a * 2 ^ k : Nat) : Int)).toNat : Nat) : Int) = _
  rw [hm]
  show ((a * 2 ^ k + b : Nat) : Int) % 18446744073709551616 = _
  omega
set_option maxRecDepth 100000 in
set_option maxHeartbeats 1000000 in
theorem rnX_nan {w : World} (r : Nat) (hr : r < 18446744073709551616) (hn : nanB r = true) :
    Calls Tryd.prog 38 #[.float .f64 r] w fun e w' => e = .returned (nrV (narB r)) ∧ w = w' := by
  have h := isNaN_c (w := w) r hr
  rw [hn] at h
  have e : narB r = some 2143289344 := by unfold narB; rw [if_pos hn]
  rw [e]
  clear e hn hr
  go_enter Tryd.func38, Tryd.ntmps38
  go_wp2_with fail
  refine h.mono ?_
  rintro e w1 ⟨rfl, rfl⟩
  go_wp2_with fail
  go_ret2
  exact ⟨rfl, rfl⟩
set_option maxRecDepth 100000 in
set_option maxHeartbeats 1000000 in
theorem rnX_inf {w : World} (r : Nat) (G S x f : Int) (h : Calls Tryd.prog 52 #[.float .f64 r] w fun e w' => e = .returned (.bool false) ∧ w = w')
    (eg : (r : Int) / 9223372036854775808 = G) (wg : IntKind.u32.wrap G = G) (es : IntKind.u32.wrap (G * 2147483648) = S) (ex : bits BinOp.and IntKind.u64 ((r : Int) / 4503599627370496) 2047 = x) (ef : bits BinOp.and IntKind.u64 (r : Int) 4503599627370495 = f) (wx : IntKind.i64.wrap x = x) (hx : x = 2047) (N : Int) (eo : bits BinOp.or IntKind.u32 S 2139095040 = N) :
    Calls Tryd.prog 38 #[.float .f64 r] w fun e w' => e = .returned (.tuple #[.int .u32 (N), .bool true]) ∧ w = w' := by
  subst hx
  have hB := bits_c (w := w) r
  go_enter Tryd.func38, Tryd.ntmps38
  go_wp2_with fail
  refine h.mono ?_
  rintro e w1 ⟨rfl, rfl⟩
  go_wp2_with fail
  refine hB.mono ?_
  rintro e w1 ⟨rfl, rfl⟩
  go_wp2_with fail
  go_ret2
  exact ⟨by first | rfl | (simp [*]; done), rfl⟩
set_option maxRecDepth 100000 in
set_option maxHeartbeats 1000000 in
theorem rnX_zero {w : World} (r : Nat) (G S x f : Int) (h : Calls Tryd.prog 52 #[.float .f64 r] w fun e w' => e = .returned (.bool false) ∧ w = w')
    (eg : (r : Int) / 9223372036854775808 = G) (wg : IntKind.u32.wrap G = G) (es : IntKind.u32.wrap (G * 2147483648) = S) (ex : bits BinOp.and IntKind.u64 ((r : Int) / 4503599627370496) 2047 = x) (ef : bits BinOp.and IntKind.u64 (r : Int) 4503599627370495 = f) (wx : IntKind.i64.wrap x = x) (hx : x = 0) (hf : f = 0) :
    Calls Tryd.prog 38 #[.float .f64 r] w fun e w' => e = .returned (.tuple #[.int .u32 (S), .bool true]) ∧ w = w' := by
  subst hx hf
  have hB := bits_c (w := w) r
  go_enter Tryd.func38, Tryd.ntmps38
  go_wp2_with fail
  refine h.mono ?_
  rintro e w1 ⟨rfl, rfl⟩
  go_wp2_with fail
  refine hB.mono ?_
  rintro e w1 ⟨rfl, rfl⟩
  go_wp2_with fail
  go_ret2
  exact ⟨by first | rfl | (simp [*]; done), rfl⟩
set_option maxRecDepth 100000 in
set_option maxHeartbeats 1000000 in
theorem rnX_one {w : World} (r : Nat) (G S x f : Int) (h : Calls Tryd.prog 52 #[.float .f64 r] w fun e w' => e = .returned (.bool false) ∧ w = w')
    (eg : (r : Int) / 9223372036854775808 = G) (wg : IntKind.u32.wrap G = G) (es : IntKind.u32.wrap (G * 2147483648) = S) (ex : bits BinOp.and IntKind.u64 ((r : Int) / 4503599627370496) 2047 = x) (ef : bits BinOp.and IntKind.u64 (r : Int) 4503599627370495 = f) (wx : IntKind.i64.wrap x = x) (h0 : 897 ≤ x) (h1 : x ≤ 1150) (em : bits BinOp.and IntKind.u64 f 536870911 = 0) (u y Y T q N : Int) (e1 : x - 1023 = u) (e2 : u + 127 = y) (e2w : IntKind.i64.wrap (u + 127) = y) (e3 : IntKind.u32.wrap y = y) (e4 : IntKind.u32.wrap (y * 8388608) = Y) (e5 : bits BinOp.or IntKind.u32 S Y = T) (e6 : IntKind.u32.wrap (f / 536870912) = q) (e7 : bits BinOp.or IntKind.u32 T q = N) :
    Calls Tryd.prog 38 #[.float .f64 r] w fun e w' => e = .returned (.tuple #[.int .u32 (N), .bool true]) ∧ w = w' := by
  have hB := bits_c (w := w) r
  go_enter Tryd.func38, Tryd.ntmps38
  go_wp2_with fail
  refine h.mono ?_
  rintro e w1 ⟨rfl, rfl⟩
  go_wp2_with fail
  refine hB.mono ?_
  rintro e w1 ⟨rfl, rfl⟩
  go_wp2_with fail
  go_ret2
  exact ⟨by first | rfl | (simp [*]; done), rfl⟩
set_option maxRecDepth 100000 in
set_option maxHeartbeats 1000000 in
theorem rnX_two {w : World} (r : Nat) (G S x f : Int) (h : Calls Tryd.prog 52 #[.float .f64 r] w fun e w' => e = .returned (.bool false) ∧ w = w')
    (eg : (r : Int) / 9223372036854775808 = G) (wg : IntKind.u32.wrap G = G) (es : IntKind.u32.wrap (G * 2147483648) = S) (ex : bits BinOp.and IntKind.u64 ((r : Int) / 4503599627370496) 2047 = x) (ef : bits BinOp.and IntKind.u64 (r : Int) 4503599627370495 = f) (wx : IntKind.i64.wrap x = x) (h0 : 874 ≤ x) (h1 : x < 897) (D A : Int) (e1 : 926 - x = D) (e2 : IntKind.u64.wrap D = D) (e3 : bits BinOp.or IntKind.u64 f 4503599627370496 = A) (e4 : bits BinOp.and IntKind.u64 A (IntKind.u64.wrap (IntKind.u64.wrap (2 ^ D.toNat) - 1)) = 0) (q N : Int) (e5 : A / 2 ^ D.toNat % 4294967296 = q) (e6 : bits BinOp.or IntKind.u32 S q = N) :
    Calls Tryd.prog 38 #[.float .f64 r] w fun e w' => e = .returned (.tuple #[.int .u32 (N), .bool true]) ∧ w = w' := by
  have hB := bits_c (w := w) r
  go_enter Tryd.func38, Tryd.ntmps38
  go_wp2_with fail
  refine h.mono ?_
  rintro e w1 ⟨rfl, rfl⟩
  go_wp2_with fail
  refine hB.mono ?_
  rintro e w1 ⟨rfl, rfl⟩
  go_wp2_with fail
  go_ret2
  exact ⟨by first | rfl | (simp [*]; done), rfl⟩
set_option maxRecDepth 100000 in
set_option maxHeartbeats 1000000 in
theorem rnX_n1 {w : World} (r : Nat) (G S x f : Int) (h : Calls Tryd.prog 52 #[.float .f64 r] w fun e w' => e = .returned (.bool false) ∧ w = w')
    (eg : (r : Int) / 9223372036854775808 = G) (wg : IntKind.u32.wrap G = G) (es : IntKind.u32.wrap (G * 2147483648) = S) (ex : bits BinOp.and IntKind.u64 ((r : Int) / 4503599627370496) 2047 = x) (ef : bits BinOp.and IntKind.u64 (r : Int) 4503599627370495 = f) (wx : IntKind.i64.wrap x = x) (h0 : 897 ≤ x) (h1 : x ≤ 1150) (Z : Int) (em : bits BinOp.and IntKind.u64 f 536870911 = Z) (hZ : ¬ Z = 0) :
    Calls Tryd.prog 38 #[.float .f64 r] w fun e w' => e = .returned (.tuple #[.int .u32 (0), .bool false]) ∧ w = w' := by
  have hb : (Z == 0) = false := beq_eq_false_iff_ne.2 hZ
  have hB := bits_c (w := w) r
  go_enter Tryd.func38, Tryd.ntmps38
  go_wp2_with fail
  refine h.mono ?_
  rintro e w1 ⟨rfl, rfl⟩
  go_wp2_with fail
  refine hB.mono ?_
  rintro e w1 ⟨rfl, rfl⟩
  go_wp2_with fail
  go_ret2
  exact ⟨by first | rfl | (simp [*]; done), rfl⟩
set_option maxRecDepth 100000 in
set_option maxHeartbeats 1000000 in
theorem rnX_n2 {w : World} (r : Nat) (G S x f : Int) (h : Calls Tryd.prog 52 #[.float .f64 r] w fun e w' => e = .returned (.bool false) ∧ w = w')
    (eg : (r : Int) / 9223372036854775808 = G) (wg : IntKind.u32.wrap G = G) (es : IntKind.u32.wrap (G * 2147483648) = S) (ex : bits BinOp.and IntKind.u64 ((r : Int) / 4503599627370496) 2047 = x) (ef : bits BinOp.and IntKind.u64 (r : Int) 4503599627370495 = f) (wx : IntKind.i64.wrap x = x) (h0 : 874 ≤ x) (h1 : x < 897) (D A : Int) (e1 : 926 - x = D) (e2 : IntKind.u64.wrap D = D) (e3 : bits BinOp.or IntKind.u64 f 4503599627370496 = A) (Z : Int) (e4 : bits BinOp.and IntKind.u64 A (IntKind.u64.wrap (IntKind.u64.wrap (2 ^ D.toNat) - 1)) = Z) (hZ : ¬ Z = 0) :
    Calls Tryd.prog 38 #[.float .f64 r] w fun e w' => e = .returned (.tuple #[.int .u32 (0), .bool false]) ∧ w = w' := by
  have hb : (Z == 0) = false := beq_eq_false_iff_ne.2 hZ
  have hB := bits_c (w := w) r
  go_enter Tryd.func38, Tryd.ntmps38
  go_wp2_with fail
  refine h.mono ?_
  rintro e w1 ⟨rfl, rfl⟩
  go_wp2_with fail
  refine hB.mono ?_
  rintro e w1 ⟨rfl, rfl⟩
  go_wp2_with fail
  go_ret2
  exact ⟨by first | rfl | (simp [*]; done), rfl⟩
set_option maxRecDepth 100000 in
set_option maxHeartbeats 1000000 in
theorem rnX_n3 {w : World} (r : Nat) (G S x f : Int) (h : Calls Tryd.prog 52 #[.float .f64 r] w fun e w' => e = .returned (.bool false) ∧ w = w')
    (eg : (r : Int) / 9223372036854775808 = G) (wg : IntKind.u32.wrap G = G) (es : IntKind.u32.wrap (G * 2147483648) = S) (ex : bits BinOp.and IntKind.u64 ((r : Int) / 4503599627370496) 2047 = x) (ef : bits BinOp.and IntKind.u64 (r : Int) 4503599627370495 = f) (wx : IntKind.i64.wrap x = x) (h0 : 0 < x) (h1 : x < 874) :
    Calls Tryd.prog 38 #[.float .f64 r] w fun e w' => e = .returned (.tuple #[.int .u32 (0), .bool false]) ∧ w = w' := by
  have hB := bits_c (w := w) r
  go_enter Tryd.func38, Tryd.ntmps38
  go_wp2_with fail
  refine h.mono ?_
  rintro e w1 ⟨rfl, rfl⟩
  go_wp2_with fail
  refine hB.mono ?_
  rintro e w1 ⟨rfl, rfl⟩
  go_wp2_with fail
  go_ret2
  exact ⟨by first | rfl | (simp [*]; done), rfl⟩
set_option maxRecDepth 100000 in
set_option maxHeartbeats 1000000 in
theorem rnX_n4 {w : World} (r : Nat) (G S x f : Int) (h : Calls Tryd.prog 52 #[.float .f64 r] w fun e w' => e = .returned (.bool false) ∧ w = w')
    (eg : (r : Int) / 9223372036854775808 = G) (wg : IntKind.u32.wrap G = G) (es : IntKind.u32.wrap (G * 2147483648) = S) (ex : bits BinOp.and IntKind.u64 ((r : Int) / 4503599627370496) 2047 = x) (ef : bits BinOp.and IntKind.u64 (r : Int) 4503599627370495 = f) (wx : IntKind.i64.wrap x = x) (h0 : 1150 < x) (h1 : ¬ x = 2047) :
    Calls Tryd.prog 38 #[.float .f64 r] w fun e w' => e = .returned (.tuple #[.int .u32 (0), .bool false]) ∧ w = w' := by
  have hb : (x == 2047) = false := beq_eq_false_iff_ne.2 h1
  have hB := bits_c (w := w) r
  go_enter Tryd.func38, Tryd.ntmps38
  go_wp2_with fail
  refine h.mono ?_
  rintro e w1 ⟨rfl, rfl⟩
  go_wp2_with fail
  refine hB.mono ?_
  rintro e w1 ⟨rfl, rfl⟩
  go_wp2_with fail
  go_ret2
  exact ⟨by first | rfl | (simp [*]; done), rfl⟩
set_option maxRecDepth 100000 in
set_option maxHeartbeats 1000000 in
theorem rnX_n5 {w : World} (r : Nat) (G S x f : Int) (h : Calls Tryd.prog 52 #[.float .f64 r] w fun e w' => e = .returned (.bool false) ∧ w = w')
    (eg : (r : Int) / 9223372036854775808 = G) (wg : IntKind.u32.wrap G = G) (es : IntKind.u32.wrap (G * 2147483648) = S) (ex : bits BinOp.and IntKind.u64 ((r : Int) / 4503599627370496) 2047 = x) (ef : bits BinOp.and IntKind.u64 (r : Int) 4503599627370495 = f) (wx : IntKind.i64.wrap x = x) (hx : x = 0) (hf : ¬ f = 0) :
    Calls Tryd.prog 38 #[.float .f64 r] w fun e w' => e = .returned (.tuple #[.int .u32 (0), .bool false]) ∧ w = w' := by
  subst hx
  have hb : (f == 0) = false := beq_eq_false_iff_ne.2 hf
  have hB := bits_c (w := w) r
  go_enter Tryd.func38, Tryd.ntmps38
  go_wp2_with fail
  refine h.mono ?_
  rintro e w1 ⟨rfl, rfl⟩
  go_wp2_with fail
  refine hB.mono ?_
  rintro e w1 ⟨rfl, rfl⟩
  go_wp2_with fail
  go_ret2
  exact ⟨by first | rfl | (simp [*]; done), rfl⟩
end Go.Proofs.YtbniandbmabdbaaDoor

/- The reference's Narrow, whole: the program's. -/
namespace Go.Proofs.YtbniandbmabdbaaDoor
open Go Go.RowKit
set_option linter.unusedSimpArgs false
set_option linter.unusedVariables false

theorem pow_d (d : Nat) (h0 : 30 ≤ d) (h1 : d ≤ 52) : IntKind.u64.wrap (IntKind.u64.wrap (2 ^ d) - 1) = ((2 ^ d - 1 : Nat) : Int) := by
  have h2 : 2 ^ d ≤ 2 ^ 52 := Nat.pow_le_pow_right (by omega) h1
  have h3 : 0 < 2 ^ d := Nat.two_pow_pos d
  have hc : ((2 : Int) ^ d) = ((2 ^ d : Nat) : Int) := by rw [Int.natCast_pow]; rfl
  rw [hc]
  obtain ⟨P, hP⟩ : ∃ P, P = 2 ^ d := ⟨_, rfl⟩
  rw [← hP] at h2 h3 ⊢
  show ((P : Int) % 18446744073709551616 - 1) % 18446744073709551616 = ((P - 1 : Nat) : Int)
  omega
theorem refNarrow_c {w : World} (r : Nat) (hr : r < 18446744073709551616) :
    Calls Tryd.prog 38 #[.float .f64 r] w fun e w' => e = .returned (nrV (narB r)) ∧ w = w' := by
  cases hn : nanB r with
  | true => exact rnX_nan r hr hn
  | false =>
  have h := isNaN_c (w := w) r hr
  rw [hn] at h
  rw [narB_ref hr hn]
  clear hn
  have eg : (r : Int) / 9223372036854775808 = ((r / 2 ^ 63 : Nat) : Int) := by omega
  have ex : bits BinOp.and IntKind.u64 ((r : Int) / 4503599627370496) 2047 = ((r / 2 ^ 52 % 2048 : Nat) : Int) := and_mask (r / 4503599627370496) 11 (by omega) (by omega)
  have ef : bits BinOp.and IntKind.u64 (r : Int) 4503599627370495 = ((r % 2 ^ 52 : Nat) : Int) := and_mask r 52 hr (by omega)
  have g2 : r / 2 ^ 63 < 2 := by omega
  have x2 : r / 2 ^ 52 % 2048 < 2048 := by omega
  have f2 : r % 2 ^ 52 < 2 ^ 52 := by omega
  generalize r / 2 ^ 63 = g at eg g2 ⊢
  generalize r / 2 ^ 52 % 2048 = x at ex x2 ⊢
  generalize r % 2 ^ 52 = f at ef f2 ⊢
  have wg : IntKind.u32.wrap (g : Int) = g := IntWalk.u32_in _ (by omega)
  have es : IntKind.u32.wrap ((g : Int) * 2147483648) = ((g * 2 ^ 31 : Nat) : Int) := by
    show ((g : Int) * 2147483648) % 4294967296 = _
    omega
  have wx : IntKind.i64.wrap (x : Int) = x := IntWalk.i64_in _ (by omega)
  unfold refN
  by_cases h1 : x = 2047
  · rw [if_pos h1]
    exact rnX_inf r g _ x f h eg wg es ex ef wx (by omega) _ (or_apart32 g 2139095040 31 (by decide) (by omega))
  rw [if_neg h1]
  by_cases h2 : x = 0 ∧ f = 0
  · rw [if_pos h2]
    exact rnX_zero r g _ x f h eg wg es ex ef wx (by omega) (by omega)
  rw [if_neg h2]
  have em : bits BinOp.and IntKind.u64 (f : Int) 536870911 = ((f % 2 ^ 29 : Nat) : Int) := and_mask f 29 (by omega) (by omega)
  by_cases h3 : (897 ≤ x ∧ x ≤ 1150) ∧ f % 2 ^ 29 = 0
  · rw [if_pos h3]
    obtain ⟨⟨h30, h31⟩, h32⟩ := h3
    rw [h32] at em
    have e7 := or_apart32 (g * 256 + (x - 896)) (f / 2 ^ 29) 23 (by omega) (by omega)
    rw [show (g * 256 + (x - 896)) * 2 ^ 23 = g * 2 ^ 31 + (x - 896) * 2 ^ 23 by omega] at e7
    refine rnX_one r g _ x f h eg wg es ex ef wx (by omega) (by omega) em ((x : Int) - 1023) ((x : Int) - 896) (((x - 896) * 2 ^ 23 : Nat) : Int) _ ((f / 2 ^ 29 : Nat) : Int) _ rfl (by omega) ?_ ?_ ?_ (or_apart32 g ((x - 896) * 2 ^ 23) 31 (by omega) (by omega)) ?_ e7
    · rw [show (x : Int) - 1023 + 127 = (x : Int) - 896 by omega]
      exact IntWalk.i64_in _ (by omega)
    · exact IntWalk.u32_in _ (by omega)
    · show ((x : Int) - 896) * 8388608 % 4294967296 = _
      omega
    · show ((f : Int) / 536870912) % 4294967296 = _
      omega
  rw [if_neg h3]
  by_cases h30 : 897 ≤ x ∧ x ≤ 1150
  · rw [if_neg (by omega)]
    exact rnX_n1 r g _ x f h eg wg es ex ef wx (by omega) (by omega) _ em (by omega)
  by_cases h4 : x < 897 ∧ 874 ≤ x
  · obtain ⟨d, hd⟩ : ∃ d, d = 926 - x := ⟨_, rfl⟩
    have hA := or_apart64 1 f 52 f2 (by omega)
    have hdi : (926 : Int) - (x : Int) = (d : Int) := by omega
    have wd : IntKind.u64.wrap (d : Int) = d := by show (d : Int) % 18446744073709551616 = _; omega
    have hA1 : (1 * 2 ^ 52 + f : Nat) = f + 2 ^ 52 := by omega
    rw [hA1] at hA
    have hZ : bits BinOp.and IntKind.u64 ((f + 2 ^ 52 : Nat) : Int) (IntKind.u64.wrap (IntKind.u64.wrap (2 ^ ((d : Int)).toNat) - 1)) = (((f + 2 ^ 52) % 2 ^ d : Nat) : Int) := by
      rw [Int.toNat_natCast, pow_d d (by omega) (by omega)]
      exact and_mask (f + 2 ^ 52) d (by omega) (by omega)
    rw [← hd]
    by_cases h5 : (f + 2 ^ 52) % 2 ^ d = 0
    · rw [if_pos ⟨h4, h5⟩]
      rw [h5] at hZ
      have hq : (f + 2 ^ 52) / 2 ^ d < 2 ^ 31 := by
        have h6 : 2 ^ 30 ≤ 2 ^ d := Nat.pow_le_pow_right (by omega) (by omega)
        have h7 := Nat.div_le_div_left h6 (Nat.two_pow_pos 30) (a := f + 2 ^ 52)
        omega
      refine rnX_two r g _ x f h eg wg es ex ef wx (by omega) (by omega) d _ hdi wd hA hZ (((f + 2 ^ 52) / 2 ^ d : Nat) : Int) _ ?_ (or_apart32 g ((f + 2 ^ 52) / 2 ^ d) 31 hq (by omega))
      rw [Int.toNat_natCast, show ((2 : Int) ^ d) = ((2 ^ d : Nat) : Int) by rw [Int.natCast_pow]; rfl, ← Int.natCast_ediv]
      generalize (f + 2 ^ 52) / 2 ^ d = q at hq
      omega
    · rw [if_neg (fun h => h5 h.2)]
      exact rnX_n2 r g _ x f h eg wg es ex ef wx (by omega) (by omega) d _ hdi wd hA _ hZ (by omega)
  · rw [if_neg (fun h => h4 h.1)]
    by_cases h6 : x = 0
    · exact rnX_n5 r g _ x f h eg wg es ex ef wx (by omega) (by omega)
    · by_cases h7 : x < 874
      · exact rnX_n3 r g _ x f h eg wg es ex ef wx (by omega) (by omega)
      · exact rnX_n4 r g _ x f h eg wg es ex ef wx (by omega) (by omega)
end Go.Proofs.YtbniandbmabdbaaDoor

/- The reference's Put, of a valid list. -/
namespace Go.Proofs.YtbniandbmabdbaaDoor
open Go Go.RowKit Go.Sort
set_option linter.unusedSimpArgs false
set_option linter.unusedVariables false

set_option maxRecDepth 100000 in
set_option maxHeartbeats 4000000 in
theorem refPut_c {w : World} {base : Nat} {v vl : Value} {l : List UInt8} {ps : List Prp} (h : RB w v l) (hl : l.length ≤ 17592186044416) (hp : RPr w vl ps) (hsz : ∀ p ∈ ps, p.nm.size ≤ 140737488351232) (hr : ∀ p ∈ ps, p.r < 18446744073709551616) (hv : validB ps = true) :
    Calls Tryd.prog 28 #[v, vl] w fun e w' => ∃ v', e = .returned (.tuple #[v', .int .i64 0]) ∧ OB w' w.heap.size v' (l ++ beB (propsB ps).length 4 ++ propsB ps) ∧ Below w.heap.size w w' := by
  have HV := Lib.hid (refValid_c hp (fun p h => ⟨hsz p h, hr p h⟩))
  rw [hv] at HV
  obtain ⟨A, c, rfl, hnc, hcell⟩ := props_at hp
  have HC := Lib.hid hcell
  have HS := Lib.hid hsz
  have HR := Lib.hid hr
  have HVP := Lib.hid (valid_all hv)
  have H16 := Lib.hid (valid_len hv)
  have H := Lib.hid h
  have qs := store_float (P := Tryd.prog)
  clear h hp hcell hsz hr hv
  go_enter Tryd.func28, Tryd.ntmps28
  go_wp2_with fail
  refine (HV.out).mono ?_
  rintro e w1 ⟨rfl, b1⟩
  go_wp2_with fail
  go_loopw [6, 17] (fun x i wr => ∃ k : Nat, k ≤ ps.length ∧ i = .int .i64 k ∧ Hid (OB wr w.heap.size x (propsB (ps.take k))) ∧ Below w.heap.size w wr) (fun _ i _ => ps.length - (intOf i).toNat)
  case atStart => exact ⟨0, Nat.zero_le _, rfl, Lib.hid (ob_nil _ _), b1⟩
  case round =>
    obtain ⟨k, hk, rfl, O1, b2⟩ := hrel
    clear b1
    by_cases hlt : k < ps.length
    · obtain ⟨p, hp⟩ : ∃ p, ps[k]? = some p := ⟨_, List.getElem?_eq_getElem hlt⟩
      obtain ⟨a, rfl, q0, q1, q2, q3, q4⟩ := HC.out k p hp
      have p0 := cell_below b2 (World.block_lt_of_cell? w _ q0) q0
      have p1 := cell_below b2 (World.block_lt_of_cell? w _ q1) q1
      have p2 := cell_below b2 (World.block_lt_of_cell? w _ q2) q2
      have p3 := cell_below b2 (World.block_lt_of_cell? w _ q3) q3
      have p4 := cell_below b2 (World.block_lt_of_cell? w _ q4) q4
      have hk16 : (k : Int) < 16 := by have := H16.out; omega
      have HP := Lib.hid hp
      clear hp q0 q1 q2 q3 q4
      have hns : p.nm.size ≤ 16 := by
        have hvp := (HVP.out p (List.mem_of_getElem? HP.out)).1
        unfold nameB at hvp
        simp only [Bool.and_eq_true, decide_eq_true_eq] at hvp
        exact hvp.1.2
      have hz : IntKind.u8.wrap ((p.nm.size : Nat) : Int) = ((UInt8.ofNat p.nm.size).toNat : Int) := wrap_byte _ (by omega)
      have HZ := Lib.hid hz
      clear hz
      have hzI : ((p.nm.size : Nat) : Int) ≤ 16 := by omega
      have hz0 : (0 : Int) ≤ ((p.nm.size : Nat) : Int) := by omega
      have HPB0 := Lib.hid (pb_drew (pb_new wr p))
      have HO1 := Lib.hid (fun o : Obj => (own_drew (O1.out.alloc (.cells #[.string p.nm, .int .i64 p.k, .int .i64 p.n, .string p.t, .float .f64 p.r] 59))).alloc o)
      have hW0 : w.heap.size ≤ (wr.alloc (.cells #[.string p.nm, .int .i64 p.k, .int .i64 p.n, .string p.t, .float .f64 p.r] 59)).drew.heap.size := Nat.le_trans b2.size (by show _ ≤ (wr.heap.push _).size; simp)
      have B0 := Lib.hid ((b2.alloc b2.size (.cells #[.string p.nm, .int .i64 p.k, .int .i64 p.n, .string p.t, .float .f64 p.r] 59)).drew)
      have HLK := Lib.hid (propsB_len (ps.take k) (fun q hq => HVP.out q (List.mem_of_mem_take hq)))
      have HTK := Lib.hid (show (ps.take k).length ≤ 16 by have := H16.out; rw [List.length_take]; omega)
      obtain ⟨s0, _, _, _, _⟩ := pb_facts HPB0.out
      go_upto_region 7 with fail
      go_region_held3 (fun w' => w'.cell? ⟨wr.heap.size, 0, none⟩ = some (.string p.nm))
        (first | exact s0 | go_keep)
        (first
          | (refine step_app_s (w0 := w) (base := w.heap.size) (l := propsB (ps.take k) ++ [UInt8.ofNat p.nm.size]) rfl (.tmp 27) (.tmp 29) rfl p.nm rfl rfl O2.out B2 B2.size (by have := HLK.out; have := HTK.out; simp; omega) ?_; intro v3 w3 o3 B3 g3; have HPB3 := Lib.hid (pb_grown HPB2.out O2.out g3); have s0 := (pb_facts HPB3.out).1; have O3 := Lib.hid o3; clear o3)
          | (refine step_app_b (w0 := w) (base := w.heap.size) (l := propsB (ps.take k)) (m := [UInt8.ofNat p.nm.size]) rfl (.tmp 21) (.tmp 26) rfl rfl rfl (HO1.out _) (rb_at1 _ _ _ HZ.out) (B0.out.alloc hW0 _) (Nat.le_trans hW0 (by show _ ≤ (Array.push _ _).size; simp)) (by have := HLK.out; have := HTK.out; simp; omega) ?_; intro v2 w2 o2 B2 g2 _; have HPB2 := Lib.hid (pb_grown (pb_alloc HPB0.out _) (HO1.out _) g2); have s0 := (pb_facts HPB2.out).1; have O2 := Lib.hid o2; clear o2 g2))
      have hgd := (HVP.out p (List.mem_of_getElem? HP.out)).2
      have hrl := HR.out p (List.mem_of_getElem? HP.out)
      have HRL := Lib.hid hrl
      have hts : ps.take (k + 1) = ps.take k ++ [p] := by rw [List.take_add_one, HP.out]; rfl
      have HTS := Lib.hid hts
      have HLK3 : Hid ((propsB (ps.take k) ++ [UInt8.ofNat p.nm.size] ++ p.nm.data.toList).length ≤ 20000) := Lib.hid (by have := HLK.out; have := HTK.out; simp only [List.length_append, List.length_cons, List.length_nil, ba_size]; omega)
      obtain ⟨L, hL⟩ : ∃ L, L = propsB (ps.take k) ++ [UInt8.ofNat p.nm.size] ++ p.nm.data.toList := ⟨_, rfl⟩
      have hfin : ∀ (wf : World) (vf : Value), OB wf w.heap.size vf (L ++ valB p) → OB wf w.heap.size vf (propsB (ps.take (k + 1))) := by
        intro wf vf h
        rw [hL] at h
        rw [HTS.out, propsB_snoc]
        unfold propB
        simpa using h
      rw [← hL] at O3 HLK3
      have HFIN := Lib.hid hfin
      clear hL hts hrl hfin O1 HO1 HLK HTK B0 HPB0 HPB2 O2 B2 g3 HZ hzI hz0 s0 p0 p1 p2 p3 p4 hns
      obtain ⟨_, s1, s2, s3, s4⟩ := pb_facts HPB3.out
      have hs3 : w.heap.size ≤ w3.heap.size := B3.size
      rcases good_of hgd with ⟨hk1, _, _⟩ | ⟨hk1, _, _, hn01⟩ | ⟨hk1, _, _, ht⟩ | ⟨hk1, hx1, hx2, hx3⟩
      · rw [hk1] at s1
        have hvb : valB p = 108 :: beB (p.n % 18446744073709551616).toNat 8 := by unfold valB; rw [if_pos hk1]
        have HVB := Lib.hid hvb
        clear hk1 hgd s3 s4 hvb
        go_upto_region 10 with fail
        have s2 := (pb_facts (pb_drew HPB3.out)).2.2.1
        go_region_held3 (fun w' => w'.cell? ⟨wr.heap.size, 2, none⟩ = some (.int .i64 p.n))
          (first | exact s2 | go_keep)
          (first
            | (go_at_call 22; refine (refBigK_c2 (base := w.heap.size) O4.out B4.size (by have := HLK3.out; simp; omega) (p.n % 18446744073709551616).toNat 8 (by omega) (by omega) _ 8 (wrap_u64 _) rfl).mono ?_; rintro e w5 ⟨v5, rfl, o5, b5, k5⟩; have B5 := B4.trans b5; have HPB5 := Lib.hid (pb_keeps HPB4.out k5); have s2 := (pb_facts HPB5.out).2.2.1; have O5 := Lib.hid o5; clear o5)
            | (refine step_app_b (w0 := w) (base := w.heap.size) (l := L) (m := [108]) rfl (.tmp 36) (.tmp 37) rfl rfl rfl ((own_drew O3.out).alloc _) (rb_at0 108 _ rfl) (B3.drew.alloc B3.size _) (Nat.le_trans B3.size (by show _ ≤ (Array.push _ _).size; simp)) (by have := HLK3.out; simp; omega) ?_; intro v4 w4 o4 B4 g4 _; have HPB4 := Lib.hid (pb_grown (pb_alloc (pb_drew HPB3.out) _) ((own_drew O3.out).alloc _) g4); have s2 := (pb_facts HPB4.out).2.2.1; have O4 := Lib.hid o4; clear o4 g4))
        go_wp2
        go_roundw
        case rel => exact ⟨k + 1, by omega, by go_num, Lib.hid (HFIN.out _ _ (by rw [HVB.out]; have := O5.out; simpa using this)), B5⟩
        case measure => simp [intOf]; omega
      · have h1 : ¬ p.k = 1 := by omega
        rw [hk1] at s1
        rcases hn01 with hn | hn
        · have hvb : valB p = [116, 0] := by unfold valB; rw [if_neg h1, if_pos hk1, hn]; rfl
          have HVB := Lib.hid hvb
          rw [hn] at s2
          clear hk1 h1 hgd hvb hn s3 s4
          go_wp2_with (at_builtin; refine app_b (w0 := w) (base := w.heap.size) (l := L) (m := [116, 0]) rfl (.tmp 46) (.tmp 51) rfl rfl rfl (O3.out.alloc _) (rb_two w3 116 0) (B3.alloc hs3 _) (by simp; omega) (by have := HLK3.out; simp; omega) ?_; intro v4 w4 o4 B4 _ _; have O4 := Lib.hid o4; clear o4)
          go_roundw
          case rel => exact ⟨k + 1, by omega, by go_num, Lib.hid (HFIN.out _ _ (by rw [HVB.out]; exact O4.out)), B4⟩
          case measure => simp [intOf]; omega
        · have hvb : valB p = [116, 1] := by unfold valB; rw [if_neg h1, if_pos hk1, hn]; rfl
          have HVB := Lib.hid hvb
          rw [hn] at s2
          clear hk1 h1 hgd hvb hn s3 s4
          go_wp2_with (at_builtin; refine app_b (w0 := w) (base := w.heap.size) (l := L) (m := [116, 1]) rfl (.tmp 46) (.tmp 51) rfl rfl rfl (O3.out.alloc _) (rb_two w3 116 1) (B3.alloc hs3 _) (by simp; omega) (by have := HLK3.out; simp; omega) ?_; intro v4 w4 o4 B4 _ _; have O4 := Lib.hid o4; clear o4)
          go_roundw
          case rel => exact ⟨k + 1, by omega, by go_num, Lib.hid (HFIN.out _ _ (by rw [HVB.out]; exact O4.out)), B4⟩
          case measure => simp [intOf]; omega
      · have h1 : ¬ p.k = 1 := by omega
        have h2 : ¬ p.k = 2 := by omega
        have hvb : valB p = 83 :: (beB p.t.size 4 ++ p.t.data.toList) := by unfold valB; rw [if_neg h1, if_neg h2, if_pos hk1]
        have HVB := Lib.hid hvb
        have htI : (p.t.size : Int) ≤ 256 := by omega
        rw [hk1] at s1
        clear hk1 h1 h2 hgd hvb s4 s2 ht
        go_upto_region 14 with fail
        have s3 := (pb_facts (pb_drew HPB3.out)).2.2.2.1
        go_region_held3 (fun w' => w'.cell? ⟨wr.heap.size, 3, none⟩ = some (.string p.t))
          (first | exact s3 | go_keep)
          (first
            | (go_at_call 22; refine (refBigK_c2 (base := w.heap.size) O4.out B4.size (by have := HLK3.out; simp; omega) p.t.size 4 (by omega) (by omega) _ 4 (by first | rfl | exact IntWalk.u64_in _ (by omega)) rfl).mono ?_; rintro e w5 ⟨v5, rfl, o5, b5, k5⟩; have B5 := B4.trans b5; have HPB5 := Lib.hid (pb_keeps HPB4.out k5); have s3 := (pb_facts HPB5.out).2.2.2.1; have O5 := Lib.hid o5; clear o5)
            | (refine step_app_b (w0 := w) (base := w.heap.size) (l := L) (m := [83]) rfl (.tmp 55) (.tmp 56) rfl rfl rfl ((own_drew O3.out).alloc _) (rb_at0 83 _ rfl) (B3.drew.alloc B3.size _) (Nat.le_trans B3.size (by show _ ≤ (Array.push _ _).size; simp)) (by have := HLK3.out; simp; omega) ?_; intro v4 w4 o4 B4 g4 _; have HPB4 := Lib.hid (pb_grown (pb_alloc (pb_drew HPB3.out) _) ((own_drew O3.out).alloc _) g4); have s3 := (pb_facts HPB4.out).2.2.2.1; have O4 := Lib.hid o4; clear o4 g4))
        go_wp2_with (at_builtin; refine app_s (w0 := w) (base := w.heap.size) (l := L ++ [83] ++ beB p.t.size 4) rfl (.tmp 64) (.tmp 67) rfl p.t rfl rfl O5.out B5 B5.size (by have := HLK3.out; simp [beB_len]; omega) ?_; intro v6 w6 o6 B6 g6; have O6 := Lib.hid o6; clear o6)
        go_roundw
        case rel => exact ⟨k + 1, by omega, by go_num, Lib.hid (HFIN.out _ _ (by rw [HVB.out]; have := O6.out; simpa using this)), B6⟩
        case measure => simp [intOf]; omega
      · have h1 : ¬ p.k = 1 := by omega
        have h2 : ¬ p.k = 2 := by omega
        have h3 : ¬ p.k = 3 := by omega
        have hvb : valB p = realB p.r := by unfold valB; rw [if_neg h1, if_neg h2, if_neg h3]
        have HVB := Lib.hid hvb
        rw [hk1] at s1
        clear hk1 h1 h2 h3 hgd hvb s2 s3 hx1 hx2 hx3
        have HNW := Lib.hid (refNarrow_c (w := w3) p.r HRL.out)
        unfold realB at HVB
        cases hn : narB p.r with
        | some n =>
          rw [hn] at HNW HVB
          rw [show nrV (some n) = .tuple #[.int .u32 n, .bool true] from rfl] at HNW
          have HN32 := Lib.hid (narB_lt hn)
          clear hn
          go_wp2_with fail
          refine (HNW.out).mono ?_
          rintro e w5 ⟨rfl, rfl⟩
          go_wp2_with (at_builtin; refine app_b (w0 := w) (base := w.heap.size) (l := L) (m := [102]) rfl (.tmp 79) (.tmp 80) rfl rfl rfl (O3.out.alloc _) (rb_one w3 102) (B3.alloc hs3 _) (by simp; omega) (by have := HLK3.out; simp; omega) ?_; intro v4 w4 o4 B4 _ _; have O4 := Lib.hid o4; clear o4)
          refine (refBigK_c2 (base := w.heap.size) O4.out B4.size (by have := HLK3.out; simp; omega) n 4 (by have := HN32.out; omega) (by omega) _ 4 (by first | rfl | exact IntWalk.u64_in _ (by have := HN32.out; omega)) rfl).mono ?_
          rintro e w5 ⟨v5, rfl, o5, b5, _⟩
          have B5 := B4.trans b5
          have O5 := Lib.hid o5
          clear o5
          go_wp2
          go_roundw
          case rel => exact ⟨k + 1, by omega, by go_num, Lib.hid (HFIN.out _ _ (by rw [HVB.out]; have := O5.out; simpa using this)), B5⟩
          case measure => simp [intOf]; omega
        | none =>
          rw [hn] at HNW HVB
          rw [show nrV none = .tuple #[.int .u32 0, .bool false] from rfl] at HNW
          clear hn
          go_wp2_with fail
          refine (HNW.out).mono ?_
          rintro e w5 ⟨rfl, rfl⟩
          go_upto_region 20 with fail
          have s4 := (pb_facts (pb_drew HPB3.out)).2.2.2.2
          go_region_held3 (fun w' => w'.cell? ⟨wr.heap.size, 4, none⟩ = some (.float .f64 p.r))
            (first | exact s4 | go_keep)
            (first
              | (go_at_call 22; refine (refBigK_c2 (base := w.heap.size) O4.out B4.size (by have := HLK3.out; simp; omega) p.r 8 HRL.out (by omega) _ 8 rfl rfl).mono ?_; rintro e w5 ⟨v5, rfl, o5, b5, k5⟩; have B5 := B4.trans b5; have HPB5 := Lib.hid (pb_keeps HPB4.out k5); have s4 := (pb_facts HPB5.out).2.2.2.2; have O5 := Lib.hid o5; clear o5)
              | (go_at_call 39; refine (bits_c p.r).mono ?_; rintro e w9 ⟨rfl, rfl⟩)
              | (refine step_app_b (w0 := w) (base := w.heap.size) (l := L) (m := [100]) rfl (.tmp 85) (.tmp 86) rfl rfl rfl ((own_drew O3.out).alloc _) (rb_at0 100 _ rfl) (B3.drew.alloc B3.size _) (Nat.le_trans B3.size (by show _ ≤ (Array.push _ _).size; simp)) (by have := HLK3.out; simp; omega) ?_; intro v4 w4 o4 B4 g4 _; have HPB4 := Lib.hid (pb_grown (pb_alloc (pb_drew HPB3.out) _) ((own_drew O3.out).alloc _) g4); have s4 := (pb_facts HPB4.out).2.2.2.2; have O4 := Lib.hid o4; clear o4 g4))
          go_wp2
          go_roundw
          case rel => exact ⟨k + 1, by omega, by go_num, Lib.hid (HFIN.out _ _ (by rw [HVB.out]; have := O5.out; simpa using this)), B5⟩
          case measure => simp [intOf]; omega
    · have hk2 : k = ps.length := by omega
      subst hk2
      have hta : ps.take ps.length = ps := List.take_of_length_le (Nat.le_refl _)
      rw [hta] at O1
      have hpl := propsB_len ps HVP.out
      have h16 := H16.out
      have HPL := Lib.hid (show (propsB ps).length ≤ 4448 by omega)
      obtain ⟨A1, c1, rfl, hc1, _⟩ := id (ob_rb O1.out)
      have hwr : w.heap.size ≤ wr.heap.size := b2.size
      clear hta hlt hk hpl h16
      have HR0 := Lib.hid (rb_below H.out b2)
      go_wp2_with (at_builtin; refine app_b (w0 := wr) (base := wr.heap.size) (l := []) (m := l) rfl (.tmp 94) (.tmp 95) rfl rfl rfl (World.ownsRow_made wr #[] 0 (Nat.le_refl _) (Nat.zero_le _) (by simp)) (rc_alloc HR0.out _) ((Below.refl _ _).alloc (Nat.le_refl _) _) (by simp) (by simp; omega) ?_; intro v4 w4 o4' b4 _ _; have o4 : OB w4 wr.heap.size v4 l := (by simpa using o4'); clear o4')
      refine (refBigK_c2 (base := wr.heap.size) o4 b4.size (by omega) (propsB ps).length 4 (by have := HPL.out; omega) (by omega) _ 4 (by first | rfl | exact IntWalk.u64_in _ (by have := HPL.out; omega)) rfl).mono ?_
      rintro e w5 ⟨v5, rfl, o5, b5, _⟩
      have O5 := Lib.hid o5
      have B5 := b4.trans b5
      have R5 := Lib.hid (rb_below (ob_rb O1.out) B5)
      clear o4 b4 o5 b5
      go_wp2_with (at_builtin; refine app_b (w0 := wr) (base := wr.heap.size) (l := l ++ beB (propsB ps).length 4) (m := propsB ps) rfl (.tmp 101) (.tmp 102) rfl rfl rfl O5.out R5.out B5 B5.size (by have := HPL.out; simp [beB_len]; omega) ?_; intro v6 w6 o6 b6 _ _; have O6 := Lib.hid o6; clear o6)
      go_ret2
      exact ⟨v6, rfl, own_lower O6.out hwr, b2.trans (b6.mono hwr)⟩
end Go.Proofs.YtbniandbmabdbaaDoor

/- The reference's Put, of a list that is not valid. -/
namespace Go.Proofs.YtbniandbmabdbaaDoor
open Go Go.RowKit
set_option linter.unusedSimpArgs false
set_option linter.unusedVariables false

theorem refPutBad_c {w : World} {v vl : Value} {ps : List Prp} (hp : RPr w vl ps) (hsz : ∀ p ∈ ps, p.nm.size ≤ 140737488351232 ∧ p.r < 18446744073709551616) (hv : validB ps = false) :
    Calls Tryd.prog 28 #[v, vl] w fun e w' => e = .returned (.tuple #[.slice none 0 0, .int .i64 36]) ∧ Below w.heap.size w w' := by
  have HV := Lib.hid (refValid_c hp hsz)
  rw [hv] at HV
  clear hp hsz hv
  go_enter Tryd.func28, Tryd.ntmps28
  go_wp2_with fail
  refine (HV.out).mono ?_
  rintro e w1 ⟨rfl, b1⟩
  go_wp2_with fail
  go_ret2
  exact ⟨rfl, b1⟩
end Go.Proofs.YtbniandbmabdbaaDoor

/- The reference's Head. -/
namespace Go.Proofs.YtbniandbmabdbaaDoor
open Go Go.RowKit
set_option linter.unusedSimpArgs false
set_option linter.unusedVariables false

set_option maxRecDepth 1000000 in
set_option maxHeartbeats 4000000 in
theorem refHead_c {w : World} (size : Int) {vl : Value} {ps : List Prp} (d : Bool) (hp : RPr w vl ps) (hc : ∀ p ∈ ps, p.nm.size ≤ 140737488351232) (hr : ∀ p ∈ ps, p.r < 18446744073709551616) :
    Calls Tryd.prog 15 #[.int .i64 size, vl, .bool d] w (HeadPost w size ps d) := by
  obtain ⟨A, c, rfl, hc1, hc2⟩ := rc_form' hp
  by_cases h0 : size < 0
  · have HN := Lib.hid (show ¬ (0 ≤ size ∧ size ≤ 1024) by omega)
    go_enter Tryd.func15, Tryd.ntmps15
    go_wp2_with fail
    go_ret2
    exact head_arg HN.out (Below.refl _ _)
  have h0' : 0 ≤ size := by omega
  by_cases h1 : 1024 < size
  · have HN := Lib.hid (show ¬ (0 ≤ size ∧ size ≤ 1024) by omega)
    clear h0
    go_enter Tryd.func15, Tryd.ntmps15
    go_wp2_with fail
    go_ret2
    exact head_arg HN.out (Below.refl _ _)
  have h1' : size ≤ 1024 := by omega
  have HS := Lib.hid (show 0 ≤ size ∧ size ≤ 1024 from ⟨h0', h1'⟩)
  clear h0 h1
  obtain ⟨n, rfl⟩ := Int.eq_ofNat_of_zero_le h0'
  have HP := Lib.hid hp
  have HC := Lib.hid hc
  have HR := Lib.hid hr
  have HV := Lib.hid (refValid_c hp (fun p h => ⟨hc p h, hr p h⟩))
  have hn9 := Lib.hid (show n < 18446744073709551616 by omega)
  have hwn : IntKind.u64.wrap (n : Int) = (n : Int) := IntWalk.u64_in _ (by omega)
  clear hp hc hr
  by_cases hv : ¬ validB ps = true
  · have hv' : validB ps = false := by simpa using hv
    rw [hv'] at HV
    have HVF := Lib.hid hv'
    clear hv hv'
    go_enter Tryd.func15, Tryd.ntmps15
    go_wp2_with fail
    refine (HV.out).mono ?_
    rintro e w1 ⟨rfl, b1⟩
    go_wp2_with fail
    go_ret2
    exact head_msg HS.out HVF.out b1
  replace hv := Decidable.of_not_not hv
  rw [hv] at HV
  have HVT := Lib.hid hv
  clear hv
  cases ps with
  | nil =>
    go_enter Tryd.func15, Tryd.ntmps15
    go_wp2_with fail
    refine (HV.out).mono ?_
    rintro e w0 ⟨rfl, b0⟩
    go_wp2_with fail
    refine (refBigK_c2 (base := w.heap.size) (ob_nil _ _) b0.size (by simp [beB_len]) 60 2 (by omega) (by omega) _ 2 (by first | rfl | exact hwn) rfl).mono ?_
    rintro e w1 ⟨v1, rfl, o1, b1, _⟩
    have B1 := b0.trans b1
    go_wp2_with fail
    refine (refBigK_c2 (base := w.heap.size) o1 B1.size (by simp [beB_len]) 0 2 (by omega) (by omega) _ 2 (by first | rfl | exact hwn) rfl).mono ?_
    rintro e w2 ⟨v2, rfl, o2, b2, _⟩
    have B2 := B1.trans b2
    go_wp2_with fail
    refine (refBigK_c2 (base := w.heap.size) o2 B2.size (by simp [beB_len]) n 8 hn9.out (by omega) _ 8 (by first | rfl | exact hwn) rfl).mono ?_
    rintro e w3 ⟨v3, rfl, o3, b3, _⟩
    have B3 := B2.trans b3
    go_wp2_with fail
    refine (refBigK_c2 (base := w.heap.size) o3 B3.size (by simp [beB_len]) 4096 2 (by omega) (by omega) _ 2 (by first | rfl | exact hwn) rfl).mono ?_
    rintro e w4 ⟨v4, rfl, o4, b4, _⟩
    have B4 := B3.trans b4
    have O4 := Lib.hid (show OB w4 w.heap.size v4 (pre4 n 4096) from o4)
    clear o1 o2 o3 o4 b0 b1 b2 b3 b4 B1 B2 B3
    cases d with
    | true =>
      go_wp2_with (at_builtin; refine app_b (w0 := w) (base := w.heap.size) (l := pre4 n 4096) (m := [2]) rfl (.tmp 43) (.tmp 44) rfl rfl rfl (O4.out.alloc _) (rb_one w4 2) (B4.alloc B4.size _) (Nat.le_trans B4.size (by show _ ≤ (Array.push _ _).size; simp)) (by rw [pre4_len]; simp) ?_; intro v6 w6 o6 b6 _ _; have O6 := Lib.hid o6; clear o6)
      go_ret2
      exact head_ok HS.out HVT.out b6 (by have := O6.out; unfold headB flagsB; rw [if_pos rfl, if_pos rfl]; simpa [pre4, beB, dig] using this)
    | false =>
      go_wp2_with (at_builtin; refine app_b (w0 := w) (base := w.heap.size) (l := pre4 n 4096) (m := [1]) rfl (.tmp 46) (.tmp 47) rfl rfl rfl (O4.out.alloc _) (rb_one w4 1) (B4.alloc B4.size _) (Nat.le_trans B4.size (by show _ ≤ (Array.push _ _).size; simp)) (by rw [pre4_len]; simp) ?_; intro v6 w6 o6 b6 _ _; have O6 := Lib.hid o6; clear o6)
      go_ret2
      exact head_ok HS.out HVT.out b6 (by have := O6.out; unfold headB flagsB; rw [if_pos rfl, if_pos rfl]; simpa [pre4, beB, dig] using this)
  | cons p ps =>
    have hl0 : (0 : Int) < (ps.length : Int) + 1 := by omega
    go_enter Tryd.func15, Tryd.ntmps15
    go_wp2_with fail
    refine (HV.out).mono ?_
    rintro e w0 ⟨rfl, b0⟩
    go_wp2_with fail
    refine (refBigK_c2 (base := w.heap.size) (ob_nil _ _) b0.size (by simp [beB_len]) 60 2 (by omega) (by omega) _ 2 (by first | rfl | exact hwn) rfl).mono ?_
    rintro e w1 ⟨v1, rfl, o1, b1, _⟩
    have B1 := b0.trans b1
    go_wp2_with fail
    refine (refBigK_c2 (base := w.heap.size) o1 B1.size (by simp [beB_len]) 0 2 (by omega) (by omega) _ 2 (by first | rfl | exact hwn) rfl).mono ?_
    rintro e w2 ⟨v2, rfl, o2, b2, _⟩
    have B2 := B1.trans b2
    go_wp2_with fail
    refine (refBigK_c2 (base := w.heap.size) o2 B2.size (by simp [beB_len]) n 8 hn9.out (by omega) _ 8 (by first | rfl | exact hwn) rfl).mono ?_
    rintro e w3 ⟨v3, rfl, o3, b3, _⟩
    have B3 := B2.trans b3
    go_wp2_with fail
    refine (refBigK_c2 (base := w.heap.size) o3 B3.size (by simp [beB_len]) 12288 2 (by omega) (by omega) _ 2 (by first | rfl | exact hwn) rfl).mono ?_
    rintro e w4 ⟨v4, rfl, o4, b4, _⟩
    have B4 := B3.trans b4
    have O4 := Lib.hid (show OB w4 w.heap.size v4 (pre4 n 12288) from o4)
    have HPT := Lib.hid (refPut_c (base := 0) (ob_rb O4.out) (by rw [pre4_len]; omega) (rc_below HP.out B4) HC.out HR.out HVT.out)
    clear o1 o2 o3 o4 b0 b1 b2 b3 b4 B1 B2 B3
    go_wp2_with fail
    refine (HPT.out).mono ?_
    rintro e w5 ⟨v5, rfl, o5, b5⟩
    have B5 := B4.trans (b5.mono B4.size)
    have O5 := Lib.hid (show OB w5 w.heap.size v5 (pre4 n 12288 ++ putB (p :: ps)) from by have h := own_lower o5 B4.size; unfold putB; rw [← List.append_assoc]; exact h)
    have HPS := Lib.hid (props_small HVT.out)
    clear o5 b5
    cases d with
    | true =>
      go_wp2_with (at_builtin; refine app_b (w0 := w) (base := w.heap.size) (l := pre4 n 12288 ++ putB (p :: ps)) (m := [2]) rfl (.tmp 43) (.tmp 44) rfl rfl rfl (O5.out.alloc _) (rb_one w5 2) (B5.alloc B5.size _) (Nat.le_trans B5.size (by show _ ≤ (Array.push _ _).size; simp)) (by have := HPS.out; unfold putB; simp only [List.length_append, pre4_len, beB_len, List.length_cons, List.length_nil]; omega) ?_; intro v6 w6 o6 b6 _ _; have O6 := Lib.hid o6; clear o6)
      go_ret2
      exact head_ok HS.out HVT.out b6 (by have := O6.out; unfold headB flagsB; rw [if_neg (by simp), if_neg (by simp)]; simpa [pre4, beB, dig] using this)
    | false =>
      go_wp2_with (at_builtin; refine app_b (w0 := w) (base := w.heap.size) (l := pre4 n 12288 ++ putB (p :: ps)) (m := [1]) rfl (.tmp 46) (.tmp 47) rfl rfl rfl (O5.out.alloc _) (rb_one w5 1) (B5.alloc B5.size _) (Nat.le_trans B5.size (by show _ ≤ (Array.push _ _).size; simp)) (by have := HPS.out; unfold putB; simp only [List.length_append, pre4_len, beB_len, List.length_cons, List.length_nil]; omega) ?_; intro v6 w6 o6 b6 _ _; have O6 := Lib.hid o6; clear o6)
      go_ret2
      exact head_ok HS.out HVT.out b6 (by have := O6.out; unfold headB flagsB; rw [if_neg (by simp), if_neg (by simp)]; simpa [pre4, beB, dig] using this)
end Go.Proofs.YtbniandbmabdbaaDoor

/- Layer 16: what is too long to be played; a header is read as what it was made of. -/
namespace Go.Proofs.YtbniandbmabdbaaDoor
open Go Go.RowKit
set_option linter.unusedSimpArgs false
set_option linter.unusedVariables false

theorem round_lessM {n k : Nat} (h : k < n) : n - (intOf (.int .i64 ((k : Int) + 1))).toNat < n - (intOf (.int .i64 (k : Int))).toNat := by
  show n - ((k : Int) + 1).toNat < n - (k : Int).toNat
  rw [show ((k : Int) + 1).toNat = k + 1 by omega, Int.toNat_natCast]
  omega
set_option maxRecDepth 100000 in
set_option maxHeartbeats 2000000 in
theorem along_c {w : World} {v : Value} {ps : List Prp} (hp : RPr w v ps) (hsz : ∀ p ∈ ps, p.nm.size ≤ 140737488351232 ∧ p.t.size ≤ 140737488351232) :
    Calls Tryd.prog 13 #[v] w fun e w' => ∃ b : Bool, e = .returned (.bool b) ∧ (b = false → ps.length ≤ 16384) ∧ Below w.heap.size w w' := by
  obtain ⟨A, c, rfl, hnc, hcell⟩ := props_at hp
  have HC := Lib.hid hcell
  have HS := Lib.hid hsz
  have qs := store_float (P := Tryd.prog)
  clear hp hcell hsz
  go_enter Tryd.func13, Tryd.ntmps13
  go_wp2_with fail
  go_loopw [3, 8] (fun x i wr => ∃ k m : Nat, k ≤ ps.length ∧ i = .int .i64 k ∧ x = .int .i64 m ∧ m ≤ 16384 ∧ Hid (k ≤ m) ∧ Below w.heap.size w wr) (fun _ i _ => ps.length - (intOf i).toNat)
  case atStart => exact ⟨0, 0, Nat.zero_le _, rfl, rfl, Nat.zero_le _, Lib.hid (Nat.zero_le _), Below.refl _ _⟩
  case round =>
    obtain ⟨k, m, hk, rfl, rfl, hm, HKM, b2⟩ := hrel
    by_cases hlt : k < ps.length
    · obtain ⟨p, hp⟩ : ∃ p, ps[k]? = some p := ⟨_, List.getElem?_eq_getElem hlt⟩
      obtain ⟨a, rfl, q0, q1, q2, q3, q4⟩ := HC.out k p hp
      have hs2 := HS.out p (List.mem_of_getElem? hp)
      obtain ⟨tot, htot⟩ : ∃ tot : Nat, tot = m + (1 + p.nm.size + p.t.size) := ⟨_, rfl⟩
      have e1 : IntKind.i64.wrap (1 + (p.nm.size : Int)) = 1 + p.nm.size := IntWalk.i64_in _ (by omega)
      have e2 : IntKind.i64.wrap (1 + (p.nm.size : Int) + (p.t.size : Int)) = 1 + p.nm.size + p.t.size := IntWalk.i64_in _ (by omega)
      have e3 : IntKind.i64.wrap ((m : Int) + (1 + (p.nm.size : Int) + (p.t.size : Int))) = m + (1 + p.nm.size + p.t.size) := IntWalk.i64_in _ (by omega)
      have hz0 : (0 : Int) ≤ p.nm.size := by omega
      have hz1 : (p.nm.size : Int) ≤ 140737488351232 := by omega
      have hz2 : (p.t.size : Int) ≤ 140737488351232 := by omega
      have p0 := cell_below b2 (World.block_lt_of_cell? w _ q0) q0
      have p1 := cell_below b2 (World.block_lt_of_cell? w _ q1) q1
      have p2 := cell_below b2 (World.block_lt_of_cell? w _ q2) q2
      have p3 := cell_below b2 (World.block_lt_of_cell? w _ q3) q3
      have p4 := cell_below b2 (World.block_lt_of_cell? w _ q4) q4
      have b3 := b2.alloc b2.size (.cells #[.string p.nm, .int .i64 p.k, .int .i64 p.n, .string p.t, .float .f64 p.r] 59)
      have HTOT := Lib.hid htot
      have HLT := Lib.hid hlt
      clear hp q0 q1 q2 q3 q4 hs2 htot
      by_cases hg : (16384 : Int) < m + (1 + p.nm.size + p.t.size)
      · go_wp2_with fail
        go_ret
        exact ⟨true, rfl, (fun h => by cases h), b3⟩
      · have hg' : (m : Int) + (1 + p.nm.size + p.t.size) ≤ 16384 := by omega
        clear hg
        go_wp2_with fail
        have hwk : wrap64 ((k : Int) + 1) = (k : Int) + 1 := by have := HKM.out; unfold wrap64; omega
        go_roundw
        case rel => exact ⟨k + 1, tot, by omega, by rw [hwk]; rfl, by rw [HTOT.out]; rfl, by have := HTOT.out; omega, Lib.hid (by have := HTOT.out; have := HKM.out; omega), b3⟩
        case measure => rw [hwk]; exact round_lessM HLT.out
    · have hk2 : k = ps.length := by omega
      subst hk2
      clear hlt
      have HM := Lib.hid hm
      go_wp2_with fail
      go_ret
      exact ⟨false, rfl, (fun _ => by have := HKM.out; have := HM.out; omega), b2⟩

theorem fld_mid {l : List UInt8} (x y z : List UInt8) {a b : Nat} (hl : l = x ++ (y ++ z)) (ha : x.length = a) (hb : a + y.length = b) : fld (bs l) a b = natB y := by
  subst hl ha hb
  unfold fld
  rw [ba_extract, bs_list, List.drop_take, List.drop_left' rfl, Nat.add_sub_cancel_left, List.take_left' rfl]
theorem rest_of {l : List UInt8} (x z : List UInt8) {a : Nat} (hl : l = x ++ z) (ha : x.length = a) : (bs l).extract a (bs l).size = bs z := by
  subst hl ha
  rw [bs_extract, bs_size, List.take_of_length_le (Nat.le_refl _), List.drop_left' rfl]
theorem mark_size (d : Bool) : (bs (beB (if d then 2 else 1) 1)).size = 1 := by rw [bs_size, beB_len]
theorem rh2_mark {n f : Nat} {ps : List Prp} {d : Bool} (hn : n ≤ 1024) (hf : f = 4096 ∨ f = 12288) : rh2 n f ps (bs (beB (if d then 2 else 1) 1)) = .ok n ps d := by
  unfold rh2
  rw [if_pos hf]
  cases d with
  | true =>
    have e : bs (beB (if true = true then 2 else 1) 1) = ⟨#[2]⟩ := by decide +kernel
    rw [e, if_pos ⟨rfl, .inr rfl⟩, if_pos hn, decide_eq_true rfl]
  | false =>
    have e : bs (beB (if false = true then 2 else 1) 1) = ⟨#[1]⟩ := by decide +kernel
    rw [e, if_pos ⟨rfl, .inl rfl⟩, if_pos hn, decide_eq_false (by decide)]
theorem rh_back {n : Nat} {ps : List Prp} {d : Bool} (hn : n ≤ 1024) (h : validB ps = true) (hf : ∀ p ∈ ps, p.r < 2 ^ 64 ∧ -9223372036854775808 ≤ p.n ∧ p.n ≤ 9223372036854775807) : rhP (bs (headB n ps d)) = .ok n ps d := by
  obtain ⟨m, hm⟩ : ∃ m, m = beB (if d then 2 else 1) 1 := ⟨_, rfl⟩
  obtain ⟨q, hq⟩ : ∃ q, q = (if ps = [] then [] else putB ps) := ⟨_, rfl⟩
  have hl : headB n ps d = beB 60 2 ++ beB 0 2 ++ beB n 8 ++ beB (flagsB ps) 2 ++ q ++ m := by rw [hq, hm]; rfl
  have hsz : ¬ (bs (headB n ps d)).size < 14 := by rw [bs_size, hl]; simp [beB_len]; omega
  have hfl : flagsB ps < 65536 := by unfold flagsB; split <;> decide
  unfold rhP
  rw [if_neg hsz]
  rw [fld_mid (l := headB n ps d) (a := 0) (b := 2) [] (beB 60 2) (beB 0 2 ++ beB n 8 ++ beB (flagsB ps) 2 ++ q ++ m) (by rw [hl]; simp only [List.append_assoc, List.nil_append]) rfl (by rw [beB_len])]
  rw [fld_mid (l := headB n ps d) (a := 2) (b := 4) (beB 60 2) (beB 0 2) (beB n 8 ++ beB (flagsB ps) 2 ++ q ++ m) (by rw [hl]; simp only [List.append_assoc]) (by rw [beB_len]) (by rw [beB_len])]
  rw [fld_mid (l := headB n ps d) (a := 4) (b := 12) (beB 60 2 ++ beB 0 2) (beB n 8) (beB (flagsB ps) 2 ++ q ++ m) (by rw [hl]; simp only [List.append_assoc]) (by rw [List.length_append, beB_len, beB_len]) (by rw [beB_len])]
  rw [fld_mid (l := headB n ps d) (a := 12) (b := 14) (beB 60 2 ++ beB 0 2 ++ beB n 8) (beB (flagsB ps) 2) (q ++ m) (by rw [hl]; simp only [List.append_assoc]) (by rw [List.length_append, List.length_append, beB_len, beB_len, beB_len]) (by rw [beB_len])]
  rw [rest_of (l := headB n ps d) (a := 14) (beB 60 2 ++ beB 0 2 ++ beB n 8 ++ beB (flagsB ps) 2) (q ++ m) (by rw [hl]; simp only [List.append_assoc]) (by rw [List.length_append, List.length_append, List.length_append, beB_len, beB_len, beB_len, beB_len])]
  rw [natB_beB, natB_beB, natB_beB, natB_beB, Nat.mod_eq_of_lt (show n < 256 ^ 8 by omega), Nat.mod_eq_of_lt (show flagsB ps < 256 ^ 2 by omega)]
  unfold rhQ
  rw [if_neg (by decide), if_neg (by decide)]
  by_cases hp : ps = []
  · subst hp
    rw [if_pos rfl] at hq
    subst hq hm
    rw [if_pos (show flagsB [] = 0 ∨ flagsB [] = 4096 from .inr rfl)]
    exact rh2_mark hn (.inl rfl)
  · rw [if_neg hp] at hq
    have hF : flagsB ps = 12288 := by unfold flagsB; rw [if_neg hp]
    subst hq
    rw [hF, if_neg (by decide), if_pos (by decide), tableP_put h hf]
    dsimp only
    subst hm
    exact rh2_mark hn (.inr rfl)
end Go.Proofs.YtbniandbmabdbaaDoor

/- Layer 16: Next. -/
namespace Go.Proofs.YtbniandbmabdbaaDoor.Af
open Go Go.RowKit
set_option linter.unusedSimpArgs false
set_option linter.unusedVariables false

/-- A byte of a text, 0 where there is none. -/
def atB (s : ByteArray) (k : Nat) : UInt8 := (s.data.toList[k]?).getD 0
theorem atB_eq (s : ByteArray) (k : Nat) (h : k < s.size) : atB s k = s[k] := by rw [atB, ba_at s k h]; rfl

/-- How many bytes a frame's payload has, as the bytes tell. -/
def lenB (s : ByteArray) : Nat := natB (s.extract 3 7).data.toList
def chB (s : ByteArray) : Nat := natB (s.extract 1 3).data.toList
/-- Next's error. -/
def nxE (s : ByteArray) : Nat :=
  if 0 < s.size ∧ kindB (atB s 0).toNat = false then 40
  else if s.size < 7 then 41
  else if 16384 < lenB s then 40
  else if s.size < lenB s + 8 then 41
  else if atB s (7 + lenB s) ≠ 206 then 40
  else 0
def nxV (t c : Int) (p : ByteArray) (n e : Int) : Value := .tuple #[.agg #[.int .i64 t, .int .i64 c, .string p], .int .i64 n, .int .i64 e]
/-- Next's answer. -/
def nxA (s : ByteArray) : Value := if nxE s = 0 then nxV (atB s 0).toNat (chB s) (s.extract 7 (7 + lenB s)) (lenB s + 8 : Nat) 0 else nxV 0 0 ByteArray.empty 0 (nxE s : Nat)

theorem nxA_err {s : ByteArray} {k : Nat} (h : nxE s = k) (hk : k ≠ 0) : nxA s = nxV 0 0 ByteArray.empty 0 (k : Nat) := by
  unfold nxA
  rw [if_neg (by rw [h]; exact hk), h]

theorem wrap_u8 (b : UInt8) : wrap64 (b.toNat : Int) = b.toNat := by
  have := UInt8.toNat_lt b
  unfold wrap64
  omega

theorem results_row2 {P : Program} {fn : Func} {p u v : Tmp} {ty : TypeId} (h : fn.results = #[.cell p ty, .tmp u, .tmp v]) (tmps : Array Value) (w : World) (g : Nat) (t : TypeId) (cs : Array Value) (fr : Nat × Nat) (d : TypeDesc)
    (hp : tmps.getD p undef = .pointer (some ⟨g, 0, none⟩)) (hg : w.heap[g]? = some (.cells cs t fr))
    (hu : P.underlying ty = some d) (hd : (match d with | .struct _ | .array _ _ => true | _ => false) = true) (hi : (P.info? ty).map (·.size) = some cs.size) :
    (results fn tmps).run P w = .ok (.tuple #[.agg cs, tmps.getD u undef, tmps.getD v undef]) w := by
  have hp' : tmps[p]?.getD undef = .pointer (some ⟨g, 0, none⟩) := by simpa using hp
  simp [results, h, hp', asAddr, run_loadVar_row w g t ty cs fr d hg hu hd hi]

/-- The end of Next: its result lies in block g. -/
theorem next_end {fn : Func} (h : fn.results = #[.cell 2 23, .tmp 3, .tmp 4]) {R : Ending → World → Prop} {a : Act} {w : World} {g : Nat} {t : TypeId} {c0 c1 c2 : Value} {fr : Nat × Nat}
    (hp : a.tmps.getD 2 undef = .pointer (some ⟨g, 0, none⟩)) (hg : w.heap[g]? = some (.cells #[c0, c1, c2] t fr)) (hd : a.defers = [])
    (hR : R (.returned (.tuple #[.agg #[c0, c1, c2], a.tmps.getD 3 undef, a.tmps.getD 4 undef])) w) : bodyPost Tryd.prog fn R .ret a w :=
  bodyPost_ret (results_row2 h _ _ _ _ _ _ _ hp hg Tryd.underlying23 rfl (by kernel_rfl)) hd hR

theorem ext_size (s : ByteArray) (a b : Nat) (h : b ≤ s.size) : (s.extract a b).size = b - a := by rw [ByteArray.size_extract]; omega

set_option maxRecDepth 100000 in
set_option maxHeartbeats 8000000 in
theorem next_c {w : World} (s : ByteArray) (hs : s.size ≤ 140737488351232) :
    Calls Tryd.prog 11 #[.string s] w fun e w' => e = .returned (nxA s) ∧ Below w.heap.size w w' := by
  have bW := (Below.refl w.heap.size w).alloc (Nat.le_refl _) (.cells #[.int .i64 0, .int .i64 0, .string ByteArray.empty] 23)
  have q0 := new_cell (w := w) (cs := #[.int .i64 0, .int .i64 0, .string ByteArray.empty]) (t := 23) 0 _ rfl
  by_cases h0 : 0 < s.size
  · have h0' : (0 : Int) < s.size := by omega
    have hk1 : wrap64 (s[0].toNat : Int) = (atB s 0).toNat := by rw [atB_eq s 0 h0, wrap_u8]
    by_cases hk : kindB (atB s 0).toNat = false
    · have hp : nxA s = nxV 0 0 ByteArray.empty 0 (40 : Nat) := nxA_err (by unfold nxE; rw [if_pos ⟨h0, hk⟩]) (by decide)
      rw [hp]
      have hk2 : kindB (wrap64 (s[0].toNat : Int)) = false := by rw [hk1]; exact hk
      clear hp hk hk1
      go_enter Tryd.func11, Tryd.ntmps11
      go_wp2_with (go_at_call 19; refine (kind_c _).mono ?_; rw [hk2]; rintro e w1 ⟨rfl, rfl⟩)
      refine next_end rfl rfl (heap_alloc_new w _) rfl ?_
      exact ⟨rfl, bW⟩
    · have hk2 : kindB (wrap64 (s[0].toNat : Int)) = true := by rw [hk1]; simpa using hk
      have HK1 := Lib.hid hk1
      clear hk1
      by_cases h7 : s.size < 7
      · have hp : nxA s = nxV 0 0 ByteArray.empty 0 (41 : Nat) := nxA_err (by unfold nxE; rw [if_neg (fun h => hk h.2), if_pos h7]) (by decide)
        rw [hp]
        have h7' : (s.size : Int) < 7 := by omega
        clear hp hk h7
        go_enter Tryd.func11, Tryd.ntmps11
        go_wp2_with (go_at_call 19; refine (kind_c _).mono ?_; rw [hk2]; rintro e w1 ⟨rfl, rfl⟩)
        refine next_end rfl rfl (heap_alloc_new w _) rfl ?_
        exact ⟨rfl, bW⟩
      · have h7' : (7 : Int) ≤ s.size := by omega
        have hx1 : (s.extract 3 7).size ≤ 7 := by rw [ext_size _ _ _ (by omega)]; omega
        have hx2 : (s.extract 1 3).size ≤ 7 := by rw [ext_size _ _ _ (by omega)]; omega
        by_cases hn : 16384 < lenB s
        · have hp : nxA s = nxV 0 0 ByteArray.empty 0 (40 : Nat) := nxA_err (by unfold nxE; rw [if_neg (fun h => hk h.2), if_neg h7, if_pos hn]) (by decide)
          rw [hp]
          have hn' : (16384 : Int) < lenB s := by omega
          clear hp hk h7 hn
          go_enter Tryd.func11, Tryd.ntmps11
          go_wp2_with (first | (go_at_call 19; refine (kind_c _).mono ?_; rw [hk2]; rintro e w1 ⟨rfl, rfl⟩) | (go_at_call 23; refine (big_c _ hx1).mono ?_; rw [← show lenB s = natB (s.extract 3 7).data.toList from rfl]; rintro e w1 ⟨rfl, rfl⟩))
          refine next_end rfl rfl (heap_alloc_new w _) rfl ?_
          exact ⟨rfl, bW⟩
        · have hn' : (lenB s : Int) ≤ 16384 := by omega
          by_cases hm : s.size < lenB s + 8
          · have hp : nxA s = nxV 0 0 ByteArray.empty 0 (41 : Nat) := nxA_err (by unfold nxE; rw [if_neg (fun h => hk h.2), if_neg h7, if_neg hn, if_pos hm]) (by decide)
            rw [hp]
            have hm' : (s.size : Int) < 7 + lenB s + 1 := by omega
            clear hp hk h7 hn hm
            go_enter Tryd.func11, Tryd.ntmps11
            go_wp2_with (first | (go_at_call 19; refine (kind_c _).mono ?_; rw [hk2]; rintro e w1 ⟨rfl, rfl⟩) | (go_at_call 23; refine (big_c _ hx1).mono ?_; rw [← show lenB s = natB (s.extract 3 7).data.toList from rfl]; rintro e w1 ⟨rfl, rfl⟩))
            refine next_end rfl rfl (heap_alloc_new w _) rfl ?_
            exact ⟨rfl, bW⟩
          · have hm' : (7 : Int) + lenB s + 1 ≤ s.size := by omega
            have hl : 7 + lenB s < s.size := by omega
            have hl' : (7 : Int) + lenB s < s.size := by omega
            by_cases hb : atB s (7 + lenB s) = 206
            · have hp : nxA s = nxV (atB s 0).toNat (chB s) (s.extract 7 (7 + lenB s)) (lenB s + 8 : Nat) 0 := by
                unfold nxA
                rw [if_pos (by unfold nxE; rw [if_neg (fun h => hk h.2), if_neg h7, if_neg hn, if_neg hm, if_neg (fun h => h hb)])]
              rw [hp]
              have hb2 : ((s[7 + lenB s]).toNat : Int) = 206 := by rw [← atB_eq s _ hl, hb]; rfl
              have h3' : (3 : Int) ≤ s.size := by omega
              have hm3 : (7 : Int) + lenB s ≤ s.size := by omega
              have hm4 : (7 : Int) ≤ 7 + lenB s := by omega
              have hw7 : IntKind.i64.wrap (7 + (lenB s : Int)) = 7 + lenB s := IntWalk.i64_in _ (by omega)
              have hw8 : IntKind.i64.wrap (7 + (lenB s : Int) + 1) = 7 + lenB s + 1 := IntWalk.i64_in _ (by omega)
              have HW1 := Lib.hid (show IntKind.i64.wrap (s[0].toNat : Int) = (atB s 0).toNat by rw [atB_eq s 0 h0]; exact IntWalk.i64_in _ (by have := UInt8.toNat_lt s[0]; omega))
              have HE2 := Lib.hid (show (7 + (lenB s : Int)).toNat = 7 + lenB s by omega)
              have HE3 := Lib.hid (show (7 + (lenB s : Int) + 1) = ((lenB s + 8 : Nat) : Int) by omega)
              have bS := (Below.refl w.heap.size w).alloc (Nat.le_refl _) (.cells #[.int .i64 (IntKind.i64.wrap (s[0].toNat : Int)), .int .i64 (chB s), .string (s.extract 7 (7 + (lenB s : Int)).toNat)] 23)
              have hZ : (w.alloc (.cells #[.int .i64 0, .int .i64 0, .string ByteArray.empty] 23)).drew.heap.size = w.heap.size + 1 := Array.size_push _
              clear hp hk h7 hn hm hb
              go_enter Tryd.func11, Tryd.ntmps11
              go_wp2_with (first | (go_at_call 19; refine (kind_c _).mono ?_; rw [hk2]; rintro e w1 ⟨rfl, rfl⟩) | (go_at_call 23; refine (big_c _ hx1).mono ?_; rw [← show lenB s = natB (s.extract 3 7).data.toList from rfl]; rintro e w1 ⟨rfl, rfl⟩))
              go_region_held3 (fun w' => w'.heap.size = w.heap.size + 1) (first | exact hZ | go_keep) (first | (go_at_call 23; refine (big_c _ hx2).mono ?_; rw [← show chB s = natB (s.extract 1 3).data.toList from rfl]; rintro e w1 ⟨rfl, rfl⟩))
              all_goals go_wp2
              all_goals refine next_end rfl rfl (heap_alloc_new w _) rfl ?_
              all_goals exact ⟨by show Ending.returned (nxV (IntKind.i64.wrap (s[0].toNat : Int)) (chB s) (s.extract 7 (7 + (lenB s : Int)).toNat) (7 + (lenB s : Int) + 1) 0) = _; rw [HW1.out, HE2.out, HE3.out], bS.drew⟩
            · have hp : nxA s = nxV 0 0 ByteArray.empty 0 (40 : Nat) := nxA_err (by unfold nxE; rw [if_neg (fun h => hk h.2), if_neg h7, if_neg hn, if_neg hm, if_pos hb]) (by decide)
              rw [hp]
              have hb2 : ((s[7 + lenB s]).toNat : Int) ≠ 206 := by
                rw [← atB_eq s _ hl]
                intro h
                exact hb (UInt8.toNat_inj.1 (by simpa using Int.ofNat.inj h))
              clear hp hk h7 hn hm hb
              go_enter Tryd.func11, Tryd.ntmps11
              go_wp2_with (first | (go_at_call 19; refine (kind_c _).mono ?_; rw [hk2]; rintro e w1 ⟨rfl, rfl⟩) | (go_at_call 23; refine (big_c _ hx1).mono ?_; rw [← show lenB s = natB (s.extract 3 7).data.toList from rfl]; rintro e w1 ⟨rfl, rfl⟩))
              refine next_end rfl rfl (heap_alloc_new w _) rfl ?_
              exact ⟨rfl, bW⟩
  · have hp : nxA s = nxV 0 0 ByteArray.empty 0 (41 : Nat) := nxA_err (by unfold nxE; rw [if_neg (fun h => h0 h.1), if_pos (by omega)]) (by decide)
    rw [hp]
    have h7' : (s.size : Int) ≤ 0 := by omega
    clear hp h0
    go_enter Tryd.func11, Tryd.ntmps11
    go_wp2_with fail
    refine next_end rfl rfl (heap_alloc_new w _) rfl ?_
    exact ⟨rfl, bW⟩
end Go.Proofs.YtbniandbmabdbaaDoor.Af

/- Layers 15, 16: the reference's reader, its Next. -/
namespace Go.Proofs.YtbniandbmabdbaaDoor.Af
open Go Go.RowKit
set_option linter.unusedSimpArgs false
set_option linter.unusedVariables false

/-- Block R is a reader of s. -/
def RR (w : World) (R : Nat) (s : ByteArray) (bad : Bool) : Prop := w.heap[R]? = some (.cells #[.string s, .bool bad] 52 (0, 0))
theorem rr_facts {w : World} {R : Nat} {s : ByteArray} {bad : Bool} (h : RR w R s bad) :
    w.cell? ⟨R, 0, none⟩ = some (.string s) ∧ w.cell? ⟨R, 1, none⟩ = some (.bool bad) ∧ w.frozen? ⟨R, 0, none⟩ = false ∧ w.frozen? ⟨R, 1, none⟩ = false := by
  refine ⟨?_, ?_, ?_, ?_⟩ <;> simp [World.cell?, World.frozen?, show w.heap[R]? = _ from h]
theorem rr_set0 {w : World} {R : Nat} {s : ByteArray} {bad : Bool} (h : RR w R s bad) (s' : ByteArray) : RR (w.setCell ⟨R, 0, none⟩ (.string s')) R s' bad := by
  unfold RR at h ⊢
  simp [World.setCell, Array.getElem?_modify, h]
theorem rr_set1 {w : World} {R : Nat} {s : ByteArray} {bad : Bool} (h : RR w R s bad) (b' : Bool) : RR (w.setCell ⟨R, 1, none⟩ (.bool b')) R s b' := by
  unfold RR at h ⊢
  simp [World.setCell, Array.getElem?_modify, h]

/-- What Take answers, what is left. -/
def tkOk (n : Int) (s : ByteArray) (bad : Bool) : Bool := !bad && decide (0 ≤ n) && decide (n ≤ s.size)
def tkOut (n : Int) (s : ByteArray) (bad : Bool) : ByteArray := if tkOk n s bad = true then s.extract 0 n.toNat else ByteArray.empty
def tkS (n : Int) (s : ByteArray) (bad : Bool) : ByteArray := if tkOk n s bad = true then s.extract n.toNat s.size else s
def tkBad (n : Int) (s : ByteArray) (bad : Bool) : Bool := !tkOk n s bad

def TkPost (w : World) (R : Nat) (v : Value) (s : ByteArray) (bad : Bool) (e : Ending) (w' : World) : Prop :=
  e = .returned v ∧ RR w' R s bad ∧ w.grownBy w' (some R)

set_option maxRecDepth 1000000 in
set_option maxHeartbeats 2000000 in
theorem take_c {w : World} {R : Nat} {s : ByteArray} {bad : Bool} (h : RR w R s bad) (n : Int) :
    Calls Tryd.prog 25 #[.pointer (some ⟨R, 0, none⟩), .int .i64 n] w (TkPost w R (.string (tkOut n s bad)) (tkS n s bad) (tkBad n s bad)) := by
  obtain ⟨c0, c1, f0, f1⟩ := rr_facts h
  have H := Lib.hid h
  clear h
  cases bad with
  | true =>
    have e1 : tkOut n s true = ByteArray.empty := rfl
    have e2 : tkS n s true = s := rfl
    have e3 : tkBad n s true = true := rfl
    rw [e1, e2, e3]
    clear e1 e2 e3
    go_enter Tryd.func25, Tryd.ntmps25
    go_wp2
    go_ret
    exact ⟨rfl, rr_set1 H.out true, grownBy_set _ R 1 _⟩
  | false =>
    by_cases h0 : n < 0
    · have e0 : tkOk n s false = false := by unfold tkOk; simp; omega
      rw [tkOut, tkS, tkBad, e0]
      clear e0
      go_enter Tryd.func25, Tryd.ntmps25
      go_wp2
      go_ret
      exact ⟨rfl, rr_set1 H.out true, grownBy_set _ R 1 _⟩
    · have h0' : 0 ≤ n := by omega
      by_cases h1 : (s.size : Int) < n
      · have e0 : tkOk n s false = false := by unfold tkOk; simp; omega
        rw [tkOut, tkS, tkBad, e0]
        clear e0 h0
        go_enter Tryd.func25, Tryd.ntmps25
        go_wp2
        go_ret
        exact ⟨rfl, rr_set1 H.out true, grownBy_set _ R 1 _⟩
      · have e0 : tkOk n s false = true := by unfold tkOk; simp; omega
        have h1' : n ≤ s.size := by omega
        have ht : n.toNat ≤ s.size := by omega
        rw [tkOut, tkS, tkBad, e0, if_pos rfl, if_pos rfl]
        clear e0 h0 h1
        go_enter Tryd.func25, Tryd.ntmps25
        go_wp2
        go_ret
        exact ⟨rfl, rr_set0 H.out _, grownBy_set _ R 0 _⟩

theorem tkOut_size (n : Int) (s : ByteArray) (bad : Bool) (k : Nat) (h : n ≤ k) : (tkOut n s bad).size ≤ k := by
  unfold tkOut
  split
  · rw [ByteArray.size_extract]; omega
  · exact Nat.zero_le _

set_option maxRecDepth 1000000 in
set_option maxHeartbeats 2000000 in
theorem number_c {w : World} {R : Nat} {s : ByteArray} {bad : Bool} (h : RR w R s bad) (n : Int) (hn : n ≤ 8) :
    Calls Tryd.prog 24 #[.pointer (some ⟨R, 0, none⟩), .int .i64 n] w (TkPost w R (.int .u64 (natB (tkOut n s bad).data.toList)) (tkS n s bad) (tkBad n s bad)) := by
  have HT := Lib.hid (take_c h n)
  have hx := tkOut_size n s bad 8 hn
  obtain ⟨x, hxe⟩ : ∃ x, x = tkOut n s bad := ⟨_, rfl⟩
  rw [← hxe] at HT hx
  rw [← hxe]
  clear hxe h
  have hsl : x.data.toList.length = x.size := by rw [Array.length_toList]; rfl
  have HSL := Lib.hid hsl
  clear hsl
  go_enter Tryd.func24, Tryd.ntmps24
  go_wp2_with fail
  refine (HT.out).mono ?_
  rintro e w1 ⟨rfl, r1, g1⟩
  have R1 := Lib.hid r1
  have G1 := Lib.hid g1
  clear r1 g1
  go_wp2
  go_loop [6, 7] (fun a i => ∃ k : Nat, k ≤ x.size ∧ i = .int .i64 k ∧ a = .int .u64 (natB (x.data.toList.take k))) (fun _ i => x.size - (intOf i).toNat)
  case atStart => exact ⟨0, Nat.zero_le _, rfl, rfl⟩
  case round =>
    obtain ⟨k, hk, rfl, rfl⟩ := hrel
    by_cases hlt : k < x.size
    · have hlt' : (k : Int) < x.size := by omega
      have hz : natB (x.data.toList.take k) < 256 ^ 7 := by
        refine Nat.lt_of_lt_of_le (natB_lt _) (Nat.pow_le_pow_right (by omega) ?_)
        rw [List.length_take]; omega
      have hb := UInt8.toNat_lt x[k]
      obtain ⟨z, hze⟩ : ∃ z, z = natB (x.data.toList.take k) := ⟨_, rfl⟩
      have hnx : natB (x.data.toList.take (k + 1)) = z * 256 + x[k].toNat := by
        rw [List.take_add_one, ba_at x k hlt, hze]
        exact natB_snoc _ _
      have HNX := Lib.hid hnx
      rw [← hze] at hz ⊢
      clear hnx hze
      have h256 : (256 : Nat) ^ 7 = 72057594037927936 := by decide
      rw [h256] at hz
      clear h256
      have hz1 : (z : Int) * 256 ≤ 18446744073709551360 := by omega
      have hz2 : (z : Int) * 256 + (x[k].toNat : Int) ≤ 18446744073709551615 := by omega
      have hz3 : (z : Int) < 72057594037927936 := by omega
      have hb3 : (x[k].toNat : Int) < 256 := by omega
      clear hz hb
      go_wp2
      trace_state
      go_round
      case rel => exact ⟨k + 1, by omega, by go_num, by rw [HNX.out, Int.natCast_add, Int.natCast_mul]; rfl⟩
      case measure => simp [intOf]; omega
    · have hd : x.data.toList.take k = x.data.toList := List.take_of_length_le (by have := HSL.out; omega)
      rw [hd]
      go_wp2
      go_ret
      exact ⟨rfl, R1.out, G1.out⟩
end Go.Proofs.YtbniandbmabdbaaDoor.Af

/- Layer 16: the reference's Encode. -/
namespace Go.Proofs.YtbniandbmabdbaaDoor.Af
open Go Go.RowKit
set_option linter.unusedSimpArgs false
set_option linter.unusedVariables false

theorem refBig_c2 {w : World} {base : Nat} {v : Value} {l : List UInt8} (h : OB w base v l) (hB : base ≤ w.heap.size) (hl : l.length ≤ 70368744177664) (n k : Nat) (hn : n < 9223372036854775808) (hk : k ≤ 8) (ni ki : Int) (hni : ni = (n : Int)) (hki : ki = (k : Int)) :
    Calls Tryd.prog 22 #[v, .int .u64 ni, .int .i64 ki] w fun e w' => ∃ v', e = .returned v' ∧ OB w' base v' (l ++ beB n k) ∧ Below base w w' := by
  subst hni hki
  exact refBig_c h hB hl n (by omega) k hk

theorem ob_one {w : World} {base : Nat} (x : UInt8) (hb : base ≤ w.heap.size) (z : Int) (hz : z = (x.toNat : Int)) : OB (w.alloc (.cells #[.int .u8 z] 5)) base (.slice (some ⟨w.heap.size, 0, none⟩) 1 1) [x] := by
  subst hz
  exact World.ownsRow_lit w #[.int .u8 x.toNat] 1 hb (by decide) rfl

theorem ob_one1 {w : World} (a : Obj) (x : UInt8) (z : Int) (hz : z = (x.toNat : Int)) : OB ((w.alloc a).alloc (.cells #[.int .u8 z] 5)) (w.heap.size + 1) (.slice (some ⟨w.heap.size + 1, 0, none⟩) 1 1) [x] := by
  have h : (w.alloc a).heap.size = w.heap.size + 1 := Array.size_push _
  have := ob_one (w := w.alloc a) (base := w.heap.size + 1) x (Nat.le_of_eq h.symm) z hz
  rw [h] at this
  exact this
theorem cell_new0 {w : World} {cs : Array Value} {t : TypeId} (j : Nat) (u : Value) (hj : cs[j]? = some u) : (w.alloc (.cells cs t)).cell? ⟨w.heap.size, j, none⟩ = some u := new_cell j u hj
theorem cell_new1 {w : World} {cs : Array Value} {t : TypeId} (o : Obj) (j : Nat) (u : Value) (hj : cs[j]? = some u) : ((w.alloc (.cells cs t)).alloc o).cell? ⟨w.heap.size, j, none⟩ = some u :=
  cell_below ((Below.refl (w.alloc (.cells cs t)).heap.size (w.alloc (.cells cs t))).alloc (Nat.le_refl _) o) (by show w.heap.size < (w.heap.push _).size; rw [Array.size_push]; omega) (new_cell j u hj)

set_option maxRecDepth 1000000 in
set_option maxHeartbeats 2000000 in
theorem refEncode_c {w : World} (t c : Int) (s : ByteArray) (hs : s.size ≤ 140737488351232) :
    Calls Tryd.prog 10 #[.agg #[.int .i64 t, .int .i64 c, .string s]] w (EncPost w t c s) := by
  have bW := (Below.refl w.heap.size w).alloc (Nat.le_refl _) (.cells #[.int .i64 t, .int .i64 c, .string s] 23)
  by_cases hok : encOk t c s = true
  · have hpost : ∀ e w', Below w.heap.size w w' → (∃ v, e = .returned (.tuple #[v, .int .i64 0]) ∧ OB w' w.heap.size v (encB t.toNat c.toNat s.data.toList)) → EncPost w t c s e w' := fun e w' h1 h2 => ⟨h1, by rw [if_pos hok]; exact h2⟩
    unfold encOk at hok
    simp only [Bool.and_eq_true, decide_eq_true_eq] at hok
    obtain ⟨⟨⟨hk, hc0⟩, hc1⟩, hs1⟩ := hok
    obtain ⟨ht0, ht1⟩ := kindB_pos hk
    obtain ⟨tn, rfl⟩ := Int.eq_ofNat_of_zero_le (show 0 ≤ t by omega)
    obtain ⟨cn, rfl⟩ := Int.eq_ofNat_of_zero_le hc0
    have hs2 : (s.size : Int) ≤ 16384 := by omega
    have hc2 : (cn : Int) < 65536 := by omega
    have HPO := Lib.hid hpost
    have HC1 := Lib.hid hc1
    have HT0 := Lib.hid ht0
    have HT1 := Lib.hid ht1
    clear hpost hc1 ht0 ht1
    have HK := Lib.hid (refKind_c (w := w.alloc (.cells #[.int .i64 tn, .int .i64 cn, .string s] 23)) (tn : Int))
    rw [hk] at HK
    clear hk
    have hsl : s.data.toList.length = s.size := by rw [Array.length_toList]; rfl
    have HSL := Lib.hid hsl
    clear hsl
    have P2 := Lib.hid (show ∀ o, ((w.alloc (.cells #[.int .i64 tn, .int .i64 cn, .string s] 23)).alloc o).cell? ⟨w.heap.size, 2, none⟩ = some (.string s) from fun o => cell_new1 o 2 _ rfl)
    have hd : (tn : Int) % 256 = ((dig tn 0).toNat : Int) := by have := dig_val tn 0; simpa using this
    have HD := Lib.hid hd
    clear hd
    have OB1 := Lib.hid (ob_one1 (w := w) (.cells #[.int .i64 tn, .int .i64 cn, .string s] 23) (dig tn 0) _ HD.out)
    have HZ1 := Lib.hid (show ∀ o, w.heap.size + 1 = (w.alloc o).heap.size from fun o => by show _ = (w.heap.push o).size; simp)
    have HZ2 := Lib.hid (show ∀ o o', w.heap.size + 1 < ((w.alloc o).alloc o').heap.size from fun o o' => by show _ < ((w.heap.push o).push o').size; simp)
    go_enter Tryd.func10, Tryd.ntmps10
    go_wp2_with (first
      | (at_builtin; refine app_b (w0 := w3) (base := w.heap.size + 1) (l := [dig tn 0] ++ beB cn 2 ++ beB s.size 4 ++ s.data.toList) (m := [206]) rfl (.tmp 44) (.tmp 45) rfl rfl rfl (O5.out.alloc _) (rb_one _ 206) (b5.alloc hs5 _) (by simp; omega) (by have := HSL.out; simp only [List.length_append, beB_len, this, List.length_cons, List.length_nil]; omega) ?_; intro v6 w6 o6 b6 _ _; have O6 := Lib.hid o6; clear o6)
      | (at_builtin; refine app_s (w0 := w3) (base := w.heap.size + 1) (l := [dig tn 0] ++ beB cn 2 ++ beB s.size 4) rfl (.tmp 40) (.tmp 42) rfl s rfl rfl O3.out (Below.refl _ _) hs3 (by have := HSL.out; simp [beB_len]; omega) ?_; intro v5 w5 o5 b5 _; have hs5 : w.heap.size + 1 ≤ w5.heap.size := Nat.le_trans hs3 b5.size; have O5 := Lib.hid o5; clear o5)
      | (go_at_call 22; refine (refBig_c2 (base := w.heap.size + 1) O2.out hs2' (by simp [beB_len]) s.size 4 (by omega) (by omega) (s.size : Int) 4 rfl rfl).mono ?_; rintro e w3 ⟨v3, rfl, o3, b3⟩; have O3 := Lib.hid o3; have hs3 : w.heap.size + 1 ≤ w3.heap.size := Nat.le_trans hs2' b3.size; have B3 := b2.trans b3; have p3 := cell_below b3 (Nat.lt_succ_self _) p2; clear o3)
      | (go_at_call 22; refine (refBig_c2 (base := w.heap.size + 1) OB1.out (Nat.le_of_lt (HZ2.out _ _)) (by simp) cn 2 (by have := HC1.out; omega) (by omega) (cn : Int) 2 rfl rfl).mono ?_; rintro e w2 ⟨v2, rfl, o2, b2⟩; have O2 := Lib.hid o2; have hs2' : w.heap.size + 1 ≤ w2.heap.size := Nat.le_trans (Nat.le_of_lt (HZ2.out _ _)) b2.size; have p2 := cell_below b2 (Nat.lt_succ_self _) (P2.out _); clear o2)
      | (go_at_call 21; refine (HK.out).mono ?_; rintro e w1 ⟨rfl, rfl⟩))
    go_ret2
    have he : ([dig tn 0] ++ beB cn 2 ++ beB s.size 4 ++ s.data.toList) ++ [206] = encB (tn : Int).toNat (cn : Int).toNat s.data.toList := by
      rw [encB, HSL.out]
      simp [beB]
    have o := O6.out
    rw [he] at o
    exact HPO.out _ _ ((bW.alloc (by simp) _).trans ((B3.trans b6).mono (Nat.le_succ _))) ⟨v6, rfl, own_lower o (Nat.le_succ _)⟩
  · have hpost : ∀ e w', Below w.heap.size w w' → e = .returned (.tuple #[.slice none 0 0, .int .i64 1]) → EncPost w t c s e w' := fun e w' h1 h2 => ⟨h1, by rw [if_neg hok]; exact h2⟩
    have HPO := Lib.hid hpost
    have HK := Lib.hid (refKind_c (w := w.alloc (.cells #[.int .i64 t, .int .i64 c, .string s] 23)) t)
    clear hpost
    cases hk : kindB t with
    | false =>
      rw [hk] at HK
      clear hk hok
      go_enter Tryd.func10, Tryd.ntmps10
      go_wp2_with (go_at_call 21; refine (HK.out).mono ?_; rintro e w1 ⟨rfl, rfl⟩)
      go_ret2
      exact HPO.out _ _ bW rfl
    | true =>
      rw [hk] at HK
      have hok : ¬ (0 ≤ c ∧ c ≤ 65535 ∧ s.size ≤ 16384) := by
        rintro ⟨a, b, d⟩
        exact hok (by unfold encOk; rw [hk]; simp [a, b, d])
      clear hk
      by_cases h0 : c < 0
      · clear hok
        go_enter Tryd.func10, Tryd.ntmps10
        go_wp2_with (go_at_call 21; refine (HK.out).mono ?_; rintro e w1 ⟨rfl, rfl⟩)
        go_ret2
        exact HPO.out _ _ bW rfl
      · by_cases h1 : 65536 ≤ c
        · have h0' : 0 ≤ c := by omega
          clear hok h0
          go_enter Tryd.func10, Tryd.ntmps10
          go_wp2_with (go_at_call 21; refine (HK.out).mono ?_; rintro e w1 ⟨rfl, rfl⟩)
          go_ret2
          exact HPO.out _ _ bW rfl
        · have h0' : 0 ≤ c := by omega
          have h2 : (16384 : Int) < s.size := by omega
          have h3 : (c : Int) < 65536 := by omega
          clear hok h0 h1
          go_enter Tryd.func10, Tryd.ntmps10
          go_wp2_with (go_at_call 21; refine (HK.out).mono ?_; rintro e w1 ⟨rfl, rfl⟩)
          go_ret2
          exact HPO.out _ _ bW rfl
end Go.Proofs.YtbniandbmabdbaaDoor.Af
