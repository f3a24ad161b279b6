/- Layer 15: the reader's tables. -/
import Derived.Test.YteigbejidfkhpaaDoorTkC
import Derived.Deep.DeepCutAuto
import Derived.Deep.CutRange
namespace Go.Proofs.YteigbejidfkhpaaDoor
open Go Go.RowKit
set_option linter.unusedSimpArgs false
set_option linter.unusedVariables false

/-- What a table's reading leaves. -/
def TabPost (w : World) (g : Nat) (o : Option (List Prp × ByteArray)) (e : Ending) (w' : World) : Prop :=
  w.grownBy w' (some g) ∧ match o with
    | some (ps, r) => ∃ v, e = .returned v ∧ OwnP w' w.heap.size v ps ∧ RD w' g r
    | none => e = StopE
theorem tab_none {w w' : World} {g : Nat} {o : Option (List Prp × ByteArray)} {e : Ending} (ho : o = none) (hg : w.grownBy w' (some g)) (he : e = StopE) : TabPost w g o e w' := by
  subst ho
  exact ⟨hg, he⟩
theorem tab_some {w w' : World} {g : Nat} {o : Option (List Prp × ByteArray)} {ps : List Prp} {r : ByteArray} {v : Value} (ho : o = some (ps, r)) (hg : w.grownBy w' (some g)) (hv : OwnP w' w.heap.size v ps) (hr : RD w' g r) : TabPost w g o (.returned v) w' := by
  subst ho
  exact ⟨hg, v, rfl, hv, hr⟩
structure TI (w1 wr : World) (g2 : Nat) (x : ByteArray) (v : Value) (acc : List Prp) (y : ByteArray) : Prop where
  rd : RD wr g2 y
  own : wr.ownsRow w1.heap.size 48 5 v acc.length (acc.flatMap Prp.cells)
  bel : Below w1.heap.size w1 wr
  tot : itemsP x.size x = (itemsP y.size y).map (acc ++ ·)
  len : acc.length + y.size ≤ x.size
  nms : ∀ p ∈ acc, p.nm.size ≤ 255
theorem below_grown {B : Nat} {a w w' : World} {g : Nat} (h : Below B a w) (hg : w.grownBy w' (some g)) (hB : B ≤ g) (hs : B ≤ w.heap.size) : Below B a w' :=
  h.trans ⟨hg.os, hg.tape, hg.output, hg.size, fun k hk => hg.block k (by omega) (fun e => by injection e with e; omega)⟩
theorem items_stop {x y : ByteArray} {acc : List Prp} (h : itemsP x.size x = (itemsP y.size y).map (acc ++ ·)) (hy : y.size ≠ 0) (hi : itemP y = none) : itemsP x.size x = none := by
  rw [h, itemsP_step hy, hi]
  rfl
theorem items_next {x y y2 : ByteArray} {acc : List Prp} {p : Prp} (h : itemsP x.size x = (itemsP y.size y).map (acc ++ ·)) (hy : y.size ≠ 0) (hi : itemP y = some (p, y2)) : itemsP x.size x = (itemsP y2.size y2).map ((acc ++ [p]) ++ ·) := by
  rw [h, itemsP_step hy, hi, Option.bind_some]
  cases itemsP y2.size y2 <;> simp

theorem own_set {w : World} {B e s n : Nat} {v : Value} {xs : List Value} (h : w.ownsRow B e s v n xs) {b : Nat} (hb : v.ownBlock ≠ some b) (j : Nat) (u : Value) : (w.setCell ⟨b, j, none⟩ u).ownsRow B e s v n xs :=
  own_other h (grownBy_set w b j u) (fun k hk e' => hb (by rw [hk]; injection e' with e'; rw [e']))
theorem own_rd {w w' : World} {B n g : Nat} {v : Value} {xs : List Value} {y : ByteArray} (h : w.ownsRow B 48 5 v n xs) (hr : RD w g y) (hg : w.grownBy w' (some g)) : w'.ownsRow B 48 5 v n xs :=
  own_other h hg (fun k hk e' => own_ne h hr (by decide) (by rw [hk]; injection e' with e'; rw [e']))
theorem rd_own {w w' : World} {B n g : Nat} {v : Value} {xs : List Value} {y : ByteArray} (hr : RD w g y) (h : w.ownsRow B 48 5 v n xs) (hg : w.grownBy w' v.ownBlock) : RD w' g y := by
  unfold RD
  rw [hg.block g (rd_lt hr) (fun e => own_ne h hr (by decide) e.symm)]
  exact hr
theorem own_ownP {w : World} {B : Nat} {v : Value} {ps : List Prp} (h : w.ownsRow B 48 5 v ps.length (ps.flatMap Prp.cells)) : OwnP w B v ps := by
  rcases id h.2 with ⟨rfl, h0⟩ | ⟨g, cap, cur, rfl, _⟩
  · exact .inl ⟨rfl, List.eq_nil_of_length_eq_zero h0⟩
  · obtain ⟨a, b, c, d, e, f⟩ := own_holdsK h
    exact .inr ⟨g, cap, rfl, b, c, e, f, a⟩
theorem ownP_lower {w : World} {B B' : Nat} {v : Value} {ps : List Prp} (h : OwnP w B v ps) (hb : B' ≤ B) : OwnP w B' v ps := by
  rcases h with h | ⟨g, cap, a, b, r⟩
  · exact .inl h
  · exact .inr ⟨g, cap, a, by omega, r⟩
theorem tabP_some {acc qs : List Prp} (hp : qs.Perm acc) (hx : acc.length < 20 → qs = sortP acc) (hv : validB qs = true) : tabP acc = some qs := by
  have hl := hp.length_eq
  have h16 := valid_len hv
  have e := hx (by omega)
  unfold tabP
  rw [if_pos ⟨by omega, by rw [← e]; exact hv⟩, e]
theorem tabP_none {acc qs : List Prp} (hp : qs.Perm acc) (hx : acc.length < 20 → qs = sortP acc) (hv : validB qs = false) : tabP acc = none := by
  unfold tabP
  refine if_neg fun ⟨h1, h2⟩ => ?_
  rw [← hx h1, hv] at h2
  cases h2
theorem below_set {B : Nat} {a w : World} (h : Below B a w) {n : Nat} (hn : B ≤ n) (j : Nat) (u : Value) : Below B a (w.setCell ⟨n, j, none⟩ u) := h.setCell hn u
theorem pb_set {w : World} {b : Nat} {nm t : ByteArray} {k n : Int} {r : Nat} {c1 c2 c3 c4 : Value} (h : w.heap[b]? = some (.cells #[.string nm, c1, c2, c3, c4] 48 (0, 0))) :
    PB ((((w.setCell ⟨b, 1, none⟩ (.int .i64 k)).setCell ⟨b, 2, none⟩ (.int .i64 n)).setCell ⟨b, 3, none⟩ (.string t)).setCell ⟨b, 4, none⟩ (.float .f64 r)) b ⟨nm, k, n, t, r⟩ := by
  unfold PB
  simp [World.setCell, Array.getElem?_modify, h]
theorem prop_new (w : World) (p : Prp) : RC (w.alloc (.cells #[.string p.nm, .int .i64 p.k, .int .i64 p.n, .string p.t, .float .f64 p.r] 48)) (.slice (some ⟨w.heap.size, 0, none⟩) 1 1) 1 5 (Prp.cells p) :=
  rc_new w 48 1 5 (Prp.cells p) rfl (by omega)

set_option maxRecDepth 1000000 in
set_option maxHeartbeats 8000000 in
theorem rdTable_c {w : World} {g : Nat} {s : ByteArray} (h : RD w g s) (hs : s.size ≤ 1073741824) :
    Calls Tryd.prog 38 #[.pointer (some ⟨g, 0, none⟩)] w (TabPost w g (tableP s)) := by
  have hL := rdLong_c h (by omega)
  have qs := store_float (P := Tryd.prog)
  have HGL := Lib.hid (rd_lt h)
  cases ho : longP s with
  | none =>
    have HL := Lib.hid (pr_no hL ho)
    have HT := Lib.hid (show tableP s = none by unfold tableP; rw [ho]; rfl)
    clear ho hL h
    go_enter Tryd.func38, Tryd.ntmps38
    go_wp2_with fail
    refine (HL.out).mono ?_
    rintro e w1 ⟨rfl, g1⟩
    go_wp2_with fail
    exact ⟨rfl, tab_none HT.out g1 rfl⟩
  | some p =>
    obtain ⟨x, r⟩ := p
    have HL := Lib.hid (pr_yes hL ho)
    have hxs := longP_size ho
    have HX := Lib.hid (show x.size ≤ 1073741824 by omega)
    have HT := Lib.hid (show tableP s = ((itemsP x.size x).bind tabP).map fun l => (l, r) by unfold tableP; rw [ho]; rfl)
    clear ho hL h hxs hs
    go_enter Tryd.func38, Tryd.ntmps38
    go_wp2_with fail
    refine (HL.out).mono ?_
    rintro e w1 ⟨rfl, r1, g1⟩
    have R1 := Lib.hid r1
    have G1 := Lib.hid g1
    clear r1 g1
    go_wp2_with fail
    go_loopg [4] x.size (fun kx v wr => ∃ (acc : List Prp) (y : ByteArray), y.size ≤ kx ∧ Hid (TI w1 wr w1.heap.size x v acc y))
    case atStart =>
      exact ⟨[], x, Nat.le_refl _, Lib.hid ⟨heap_alloc_new w1 _, (own_nil w1 w1.heap.size 48 5).alloc _, (Below.refl _ _).alloc (Nat.le_refl _) _, by simp, by simp, by simp⟩⟩
    case round =>
      obtain ⟨acc, y, hyk, HI⟩ := hrel
      obtain ⟨c0, f0⟩ := rd_facts HI.out.rd
      by_cases hy : y.size = 0
      · have htot := Lib.hid (show itemsP x.size x = some acc by rw [HI.out.tot, itemsP_nil hy]; simp)
        have hal := Lib.hid (show acc.length < 1152921504606846976 by have := HX.out; have := HI.out.len; omega)
        have HSO := Lib.hid (sortOwn_c HI.out.bel.size (own_ownP HI.out.own) hal.out)
        obtain rfl := ba_nil hy
        clear hy hyk
        go_wp2_with fail
        refine (HSO.out).mono ?_
        rintro e w2 ⟨rfl, qs', ho', hp', hx', hb'⟩
        have OW := Lib.hid ho'
        have PE := Lib.hid hp'
        have HXQ := Lib.hid hx'
        have BW := Lib.hid (HI.out.bel.trans hb')
        have HV := valid_c (ownP_rpr ho') (fun p hp => by have := HI.out.nms p (hp'.mem_iff.1 hp); omega)
        clear ho' hp' hx' hb'
        cases hv : validB qs' with
        | true =>
          rw [hv] at HV
          have HV' := Lib.hid HV
          have HVB := Lib.hid hv
          clear HV hv
          go_wp2_with fail
          refine (HV'.out).mono ?_
          rintro e w3 ⟨rfl, b3⟩
          go_wp2_with (go_at_call 49; refine unless_yes.mono ?_; rintro e w4 ⟨rfl, rfl⟩)
          go_ret
          have B3 := BW.out.trans (b3.mono BW.out.size)
          exact tab_some (by rw [HT.out, htot.out, Option.bind_some, tabP_some PE.out HXQ.out HVB.out]; rfl) (G1.out.trans (grownBy_below B3 _)) (ownP_lower (ownP_below OW.out b3) G1.out.size) (rd_below R1.out B3)
        | false =>
          rw [hv] at HV
          have HV' := Lib.hid HV
          have HVB := Lib.hid hv
          clear HV hv
          go_wp2_with fail
          refine (HV'.out).mono ?_
          rintro e w3 ⟨rfl, b3⟩
          go_wp2_with (go_at_call 49; refine unless_no.mono ?_; rintro e w4 ⟨rfl, rfl⟩)
          have B3 := BW.out.trans (b3.mono BW.out.size)
          exact ⟨rfl, tab_none (by rw [HT.out, htot.out, Option.bind_some, tabP_none PE.out HXQ.out HVB.out]; rfl) (G1.out.trans (grownBy_below B3 _)) rfl⟩
      · have hE := ne_nil y (by omega)
        have HY := Lib.hid hy
        have hS := rdShort_c HI.out.rd
        clear hy
        cases ho : shortP y with
        | none =>
          have HS := Lib.hid (pr_no hS ho)
          have HN := Lib.hid (show itemP y = none by unfold itemP; rw [ho]; rfl)
          clear hS ho
          go_wp2_with fail
          refine (HS.out).mono ?_
          rintro e w2 ⟨rfl, g2⟩
          go_wp2_with fail
          exact ⟨rfl, tab_none (by rw [HT.out, items_stop HI.out.tot HY.out HN.out]; rfl) (G1.out.trans (grownBy_below (below_grown HI.out.bel g2 (Nat.le_refl _) HI.out.bel.size) _)) rfl⟩
        | some q =>
          obtain ⟨nm, y1⟩ := q
          have HS := Lib.hid (pr_yes hS ho)
          have HO := Lib.hid ho
          have HY1 := Lib.hid (shortP_size ho)
          clear hS ho
          go_wp2_with fail
          refine (HS.out).mono ?_
          rintro e w2 ⟨rfl, r2, g2⟩
          have R2 := Lib.hid r2
          have G2 := Lib.hid g2
          clear r2 g2
          have hr2 : RD (w2.alloc (.cells #[.string nm, .int .i64 0, .int .i64 0, .string ⟨#[]⟩, .float .f64 0] 48)) w1.heap.size y1 := rd_below R2.out (below_al1 _ _)
          have hV := rdValue_c hr2 (by have := HX.out; have := HI.out.len; have := HY1.out.2; omega)
          have bal := Lib.hid (below_al1 w2 (.cells #[.string nm, .int .i64 0, .int .i64 0, .string ⟨#[]⟩, .float .f64 0] 48))
          have bI2 := Lib.hid (below_grown HI.out.bel G2.out (Nat.le_refl _) HI.out.bel.size)
          clear hr2
          cases ho2 : valP y1 with
          | none =>
            have HV := Lib.hid (pr_no hV ho2)
            have HN := Lib.hid (show itemP y = none by unfold itemP; rw [HO.out, Option.bind_some]; dsimp only; rw [ho2]; rfl)
            clear hV ho2
            go_wp2_with fail
            refine (HV.out).mono ?_
            rintro e w3 ⟨rfl, g3⟩
            go_wp2_with fail
            exact ⟨rfl, tab_none (by rw [HT.out, items_stop HI.out.tot HY.out HN.out]; rfl) (G1.out.trans (grownBy_below (below_grown (bI2.out.trans (bal.out.mono bI2.out.size)) g3 (Nat.le_refl _) (Nat.le_trans bI2.out.size bal.out.size)) _)) rfl⟩
          | some q2 =>
            obtain ⟨vv, y2⟩ := q2
            have HV := Lib.hid (pr_yes hV ho2)
            have HN := Lib.hid (show itemP y = some (⟨nm, vv.k, vv.n, vv.t, vv.r⟩, y2) by unfold itemP; rw [HO.out, Option.bind_some]; dsimp only; rw [ho2]; rfl)
            clear hV ho2
            unfold Vl.val at HV
            go_wp2_with fail
            refine (HV.out).mono ?_
            rintro e w3 ⟨rfl, r3, g3⟩
            have hpb : w3.heap[w2.heap.size]? = some (.cells #[.string nm, .int .i64 0, .int .i64 0, .string ⟨#[]⟩, .float .f64 0] 48 (0, 0)) := by
              rw [g3.block w2.heap.size (by simp) (fun e => by injection e with e; have := rd_lt R2.out; omega)]
              exact heap_alloc_new w2 _
            have q0 : w3.cell? ⟨w2.heap.size, 0, none⟩ = some (.string nm) := by simp [World.cell?, hpb]
            have q1 : w3.cell? ⟨w2.heap.size, 1, none⟩ = some (.int .i64 0) := by simp [World.cell?, hpb]
            have q2 : w3.cell? ⟨w2.heap.size, 2, none⟩ = some (.int .i64 0) := by simp [World.cell?, hpb]
            have q3 : w3.cell? ⟨w2.heap.size, 3, none⟩ = some (.string ⟨#[]⟩) := by simp [World.cell?, hpb]
            have q4 : w3.cell? ⟨w2.heap.size, 4, none⟩ = some (.float .f64 0) := by simp [World.cell?, hpb]
            have f0' : ∀ j, w3.frozen? ⟨w2.heap.size, j, none⟩ = false := fun j => by simp [World.frozen?, hpb]
            have f1 := f0' 1
            have f2 := f0' 2
            have f3 := f0' 3
            have f4 := f0' 4
            have HPB := Lib.hid hpb
            have R3 := Lib.hid r3
            have G3 := Lib.hid g3
            clear hpb f0' r3 g3
            go_upto_region 6 with fail
            obtain ⟨W, hW⟩ : ∃ W, W = ((((w3.setCell ⟨w2.heap.size, 1, none⟩ (.int .i64 vv.k)).setCell ⟨w2.heap.size, 2, none⟩ (.int .i64 vv.n)).setCell ⟨w2.heap.size, 3, none⟩ (.string vv.t)).setCell ⟨w2.heap.size, 4, none⟩ (.float .f64 vv.r)) := ⟨_, rfl⟩
            have o2 := own_rd HI.out.own HI.out.rd G2.out
            have hne : u4.ownBlock ≠ some w2.heap.size := fun e => by have := own_lt o2 e; omega
            have o3 := own_rd (o2.alloc (.cells #[.string nm, .int .i64 0, .int .i64 0, .string ⟨#[]⟩, .float .f64 0] 48)) (rd_below R2.out bal.out) G3.out
            have hbm : w1.heap.size ≤ w2.heap.size := bI2.out.size
            have hgp : w1.heap.size ≠ w2.heap.size := by have := rd_lt R2.out; omega
            have bI3 := below_grown (bI2.out.trans (bal.out.mono bI2.out.size)) G3.out (Nat.le_refl _) (Nat.le_trans bI2.out.size bal.out.size)
            have OW := Lib.hid (show W.ownsRow w1.heap.size 48 5 u4 acc.length (acc.flatMap Prp.cells) by rw [hW]; exact own_set (own_set (own_set (own_set o3 hne 1 _) hne 2 _) hne 3 _) hne 4 _)
            have RW := Lib.hid (show RD W w1.heap.size y2 by rw [hW]; exact rd_other (rd_other (rd_other (rd_other R3.out hgp 1 _) hgp 2 _) hgp 3 _) hgp 4 _)
            have BW := Lib.hid (show Below w1.heap.size w1 W by rw [hW]; exact below_set (below_set (below_set (below_set bI3 hbm 1 _) hbm 2 _) hbm 3 _) hbm 4 _)
            have hPB : PB W w2.heap.size ⟨nm, vv.k, vv.n, vv.t, vv.r⟩ := by rw [hW]; exact pb_set HPB.out
            rw [← hW]
            obtain ⟨p, hp⟩ : ∃ p : Prp, p = ⟨nm, vv.k, vv.n, vv.t, vv.r⟩ := ⟨_, rfl⟩
            rw [← hp] at HN hPB
            have hnm : p.nm.size ≤ 255 := by rw [hp]; exact HY1.out.1
            have HNM := Lib.hid hnm
            obtain ⟨s0, s1, s2, s3, s4⟩ := pb_facts hPB
            have HPW := Lib.hid hPB
            have hal := Lib.hid (show acc.length ≤ 1073741824 by have := HX.out; have := HI.out.len; omega)
            clear hW o2 hne o3 hbm hgp bI3 hPB hp hnm q0 q1 q2 q3 q4 f1 f2 f3 f4 bI2 bal HV HPB R3 G3 R2 G2
            go_wp2_with (at_builtin; refine app_own (w0 := w1) w1.heap.size 24 48 5 56 _ Tryd.underlying24 info_prop rfl (by decide) rfl (.tmp 21) (.tmp 23) rfl u4 _ acc.length 1 (acc.flatMap Prp.cells) (Prp.cells p) rfl rfl (OW.out.alloc _) (prop_new W p) (cells_one [p]) (BW.out.alloc BW.out.size _) (by have := hal.out; omega) (by have := hal.out; omega) (by have := BW.out.size; simp; omega) ?_; intro v5 w5 o5 b5 g5 _; have O5 := Lib.hid o5; have B5 := Lib.hid b5; have G5 := Lib.hid g5; clear o5 b5 g5)
            go_roundg y2.size
            case measure => have := (itemP_size HN.out).1; omega
            case rel =>
              have hi := itemP_size HN.out
              exact ⟨acc ++ [p], y2, Nat.le_refl _, Lib.hid ⟨rd_own (rd_below RW.out (below_al1 _ _)) (OW.out.alloc _) G5.out, by have := O5.out; rw [List.length_append, List.flatMap_append]; simpa using this, B5.out, items_next HI.out.tot HY.out HN.out, by have := HI.out.len; rw [List.length_append]; simp only [List.length_cons, List.length_nil]; omega, fun q hq => by
                rcases List.mem_append.1 hq with hq | hq
                · exact HI.out.nms q hq
                · rw [List.mem_singleton.1 hq]; exact HNM.out⟩⟩
end Go.Proofs.YteigbejidfkhpaaDoor
