/- Layer 7: prop.Set. -/
import Derived.Test.YtcehkaombanhaaaGreatDoorPbP
import Derived.Test.YtcehkaombanhaaaGreatDoorPaW
namespace Go.Proofs.YtcehkaombanhaaaGreatDoor
open Go Go.RowKit
open Go.ChangeShapes Go.WideShapes Go.Deep Go.Sort
set_option linter.unusedSimpArgs false
set_option linter.unusedVariables false

/-- A store into a row of the call's own. -/
theorem own_set {w : World} {base e s n g cap j : Nat} {xs : List Value} (h : w.ownsRow base e s (.slice (some ⟨g, 0, none⟩) n cap) n xs) (u : Value) (hj : j < xs.length) : (w.setCell ⟨g, j, none⟩ u).ownsRow base e s (.slice (some ⟨g, 0, none⟩) n cap) n (xs.set j u) := by
  obtain ⟨h1, h2⟩ := h
  rcases h2 with ⟨h2, _⟩ | ⟨g', cap', cur, he, hb, hh, hn, hc, hs, ht⟩
  · cases h2
  · injection he with e1 e2 e3
    injection e1 with e1
    injection e1 with e1 _ _
    subst e1 e3
    refine ⟨by rw [List.length_set]; exact h1, .inr ⟨g, cap, cur.setIfInBounds j u, rfl, hb, ?_, hn, hc, by simpa using hs, ?_⟩⟩
    · simp [World.setCell, Array.getElem?_modify, hh]
    · rw [Array.toList_setIfInBounds, ← ht, List.take_set]
theorem own_frozen {w : World} {base e s n g cap : Nat} {xs : List Value} (h : w.ownsRow base e s (.slice (some ⟨g, 0, none⟩) n cap) n xs) (j : Nat) : w.frozen? ⟨g, j, none⟩ = false := by
  rcases h.2 with ⟨h2, _⟩ | ⟨g', cap', cur, he, hb, hh, hn, hc, hs, ht⟩
  · cases h2
  · injection he with e1 e2 e3
    injection e1 with e1
    injection e1 with e1 _ _
    subst e1
    exact frozen_of_row _ _ j _ _ hh
theorem own_base' {w : World} {base e s n g cap : Nat} {xs : List Value} (h : w.ownsRow base e s (.slice (some ⟨g, 0, none⟩) n cap) n xs) : base ≤ g := own_base h g rfl
theorem set_flat (ps : List Prp) (i : Nat) (p : Prp) (hi : i < ps.length) :
    (((((ps.flatMap Prp.cells).set (i * 5) (.string p.nm)).set (i * 5 + 1) (.int .i64 p.k)).set (i * 5 + 2) (.int .i64 p.n)).set (i * 5 + 3) (.string p.t)).set (i * 5 + 4) (.float .f64 p.r) = (ps.set i p).flatMap Prp.cells := by
  have hl : (ps.flatMap Prp.cells).length = ps.length * 5 := by rw [flat_len Prp.cells 5 (fun _ => rfl)]
  refine List.ext_getElem? fun q => ?_
  rw [flat_get Prp.cells 5 (by omega) (fun _ => rfl)]
  simp only [List.getElem?_set, List.length_set, hl]
  by_cases hq : q / 5 = i
  · have h5 : q % 5 < 5 := Nat.mod_lt _ (by omega)
    have hqe : q = i * 5 + q % 5 := by omega
    rw [if_pos hq.symm, if_pos hi]
    rcases (show q % 5 = 0 ∨ q % 5 = 1 ∨ q % 5 = 2 ∨ q % 5 = 3 ∨ q % 5 = 4 by omega) with h | h | h | h | h <;> (rw [h] at hqe ⊢; subst hqe; simp [Prp.cells]; omega)
  · rw [if_neg (by omega), if_neg (by omega), if_neg (by omega), if_neg (by omega), if_neg (by omega), if_neg (fun e => hq e.symm), flat_get Prp.cells 5 (by omega) (fun _ => rfl)]
theorem rc_anyP {w : World} {v : Value} {n s : Nat} {cs : List Value} (h : RC w v n s cs) : ∃ A c, v = .slice A n c := by
  obtain ⟨A, c, rfl, _⟩ := h
  exact ⟨A, c, rfl⟩
def outL (ps : List Prp) (p : Prp) : List Prp := if setE ps p = 0 then setL ps p else []
theorem cells_one' (l : List Prp) : ∀ y ∈ l.flatMap Prp.cells, y.oneCell' = true := by
  intro y hy
  obtain ⟨p, _, hv⟩ := List.mem_flatMap.1 hy
  simp only [Prp.cells, List.mem_cons, List.not_mem_nil, or_false] at hv
  rcases hv with rfl | rfl | rfl | rfl | rfl <;> rfl
/-- The boxed property. -/
structure BoxP (W : World) (k : Nat) (p : Prp) : Prop where
  p0 : W.cell? ⟨k, 0, none⟩ = some (.string p.nm)
  p1 : W.cell? ⟨k, 1, none⟩ = some (.int .i64 p.k)
  p2 : W.cell? ⟨k, 2, none⟩ = some (.int .i64 p.n)
  p3 : W.cell? ⟨k, 3, none⟩ = some (.string p.t)
  p4 : W.cell? ⟨k, 4, none⟩ = some (.float .f64 p.r)
  sz : k < W.heap.size
theorem BoxP.below {W W1 : World} {k : Nat} {p : Prp} (h : BoxP W k p) (b : Below W.heap.size W W1) : BoxP W1 k p :=
  ⟨cell_below b h.sz h.p0, cell_below b h.sz h.p1, cell_below b h.sz h.p2, cell_below b h.sz h.p3, cell_below b h.sz h.p4, Nat.lt_of_lt_of_le h.sz b.size⟩
theorem boxP_new (w : World) (p : Prp) : BoxP (w.alloc (.cells #[.string p.nm, .int .i64 p.k, .int .i64 p.n, .string p.t, .float .f64 p.r] 32)) w.heap.size p :=
  ⟨new_cell (w := w) 0 _ rfl, new_cell (w := w) 1 _ rfl, new_cell (w := w) 2 _ rfl, new_cell (w := w) 3 _ rfl, new_cell (w := w) 4 _ rfl, by simp⟩

theorem flat_take (ps : List Prp) (i : Nat) : (ps.take i).flatMap Prp.cells = (ps.flatMap Prp.cells).take (i * 5) := by
  by_cases h : i ≤ ps.length
  · have e : ps.flatMap Prp.cells = (ps.take i).flatMap Prp.cells ++ (ps.drop i).flatMap Prp.cells := by rw [← List.flatMap_append, List.take_append_drop]
    rw [e, List.take_left' (by rw [flat_len Prp.cells 5 (fun _ => rfl), List.length_take, Nat.min_eq_left h])]
  · rw [List.take_of_length_le (by omega), List.take_of_length_le (by rw [flat_len Prp.cells 5 (fun _ => rfl)]; omega)]
theorem flat_drop (ps : List Prp) (i : Nat) : (ps.drop i).flatMap Prp.cells = (ps.flatMap Prp.cells).drop (i * 5) := by
  by_cases h : i ≤ ps.length
  · have e : ps.flatMap Prp.cells = (ps.take i).flatMap Prp.cells ++ (ps.drop i).flatMap Prp.cells := by rw [← List.flatMap_append, List.take_append_drop]
    rw [e, List.drop_left' (by rw [flat_len Prp.cells 5 (fun _ => rfl), List.length_take, Nat.min_eq_left h])]
  · rw [List.drop_eq_nil_of_le (by omega), List.drop_eq_nil_of_le (by rw [flat_len Prp.cells 5 (fun _ => rfl)]; omega)]
    rfl
theorem flat_put (a b : List Prp) (p : Prp) : (a ++ p :: b).flatMap Prp.cells = a.flatMap Prp.cells ++ p.cells ++ b.flatMap Prp.cells := by
  rw [List.flatMap_append, List.flatMap_cons, List.append_assoc]
theorem own_ltP {w : World} {B e s n : Nat} {v : Value} {xs : List Value} (h : w.ownsRow B e s v n xs) {k : Nat} (hk : v.ownBlock = some k) : k < w.heap.size := by
  rcases h.2 with ⟨rfl, _⟩ | ⟨g, cap, cur, rfl, _, hg, _⟩
  · cases hk
  · injection hk with hk
    have e' : g = k := hk
    subst e'
    exact (Array.getElem?_eq_some_iff.1 hg).1

set_option maxRecDepth 100000 in
set_option maxHeartbeats 2000000 in
theorem set_c {w : World} {v : Value} {ps : List Prp} (p : Prp) (hp : RPr w v ps) (hsz : ∀ x ∈ ps, x.nm.size ≤ 140737488351232) (hpn : p.nm.size ≤ 140737488351232) :
    Calls Tryz.prog 14 #[v, .agg #[.string p.nm, .int .i64 p.k, .int .i64 p.n, .string p.t, .float .f64 p.r]] w fun e w' => ∃ v', e = .returned (.tuple #[v', .int .i64 (setE ps p)]) ∧ w'.ownsRow w.heap.size 32 5 v' (outL ps p).length ((outL ps p).flatMap Prp.cells) ∧ Below w.heap.size w w' := by
  obtain ⟨W, hW⟩ : ∃ W, W = w.alloc (.cells #[.string p.nm, .int .i64 p.k, .int .i64 p.n, .string p.t, .float .f64 p.r] 32) := ⟨_, rfl⟩
  have b0 : Below w.heap.size w W := by rw [hW]; exact (Below.refl _ _).alloc (Nat.le_refl _) _
  have BX : BoxP W w.heap.size p := by rw [hW]; exact boxP_new w p
  have HW := Lib.hid hW
  have hpW := rc_below hp b0
  have HV := Lib.hid (valid_c hpW hsz)
  have HN := Lib.hid (fun w => name_c (w := w) p.nm hpn)
  have HG := Lib.hid (fun w => good_c (w := w) p.k p.n p.t p.r)
  have HPW : Hid (RPr W v ps) := Lib.hid hpW
  have hA : ∃ A c, v = .slice A ps.length c := rc_anyP hp
  obtain ⟨A, c, rfl⟩ := hA
  have HB0 := Lib.hid b0
  have HBX := Lib.hid BX
  obtain ⟨er, her⟩ : ∃ er, er = setE ps p := ⟨_, rfl⟩
  obtain ⟨ol, hol⟩ : ∃ ol, ol = outL ps p := ⟨_, rfl⟩
  rw [← her, ← hol]
  have HER := Lib.hid her
  have HOL := Lib.hid hol
  clear hW hp hsz hpn hpW her hol b0 BX
  cases hv : validB ps with
  | false =>
    have he : er = 36 := by rw [HER.out]; unfold setE; rw [hv]; rfl
    have ho : ol = [] := by rw [HOL.out]; unfold outL; rw [← HER.out, he]; rfl
    rw [hv] at HV
    subst he ho
    clear hv
    go_enter Tryz.func14, Tryz.ntmps14
    go_upto_region 1 with fail
    rw [← HW.out]
    obtain ⟨y0, y1, y2, y3, y4, -⟩ := HBX.out
    go_wp2_with fail
    refine (HV.out).mono ?_
    rintro e w1 ⟨rfl, b1⟩
    have B1 := HB0.out.trans (b1.mono HB0.out.size)
    go_wp2_with fail
    go_ret2
    exact ⟨_, rfl, own_nil _ _ _ _, B1⟩
  | true =>
    rw [hv] at HV
    have HVB := Lib.hid hv
    cases hn : nameB p.nm with
    | false =>
      have he : er = 36 := by rw [HER.out]; unfold setE; rw [hv, hn]; rfl
      have ho : ol = [] := by rw [HOL.out]; unfold outL; rw [← HER.out, he]; rfl
      rw [hn] at HN
      subst he ho
      clear hv hn
      go_enter Tryz.func14, Tryz.ntmps14
      go_upto_region 1 with fail
      rw [← HW.out]
      obtain ⟨y0, y1, y2, y3, y4, -⟩ := HBX.out
      go_wp2_with fail
      refine (HV.out).mono ?_
      rintro e w1 ⟨rfl, b1⟩
      have B1 := HB0.out.trans (b1.mono HB0.out.size)
      have BX1 := Lib.hid (HBX.out.below b1)
      clear y0 y1 y2 y3 y4 b1
      obtain ⟨y0, y1, y2, y3, y4, -⟩ := BX1.out
      go_wp2_with fail
      refine (HN.out _).mono ?_
      rintro e w2 ⟨rfl, b2⟩
      have B2 := B1.trans (b2.mono B1.size)
      go_wp2_with fail
      go_ret2
      exact ⟨_, rfl, own_nil _ _ _ _, B2⟩
    | true =>
      rw [hn] at HN
      cases hg : p.good with
      | false =>
        have he : er = 36 := by rw [HER.out]; unfold setE; rw [hv, hn, hg]; rfl
        have ho : ol = [] := by rw [HOL.out]; unfold outL; rw [← HER.out, he]; rfl
        rw [show goodB p.k p.n p.t p.r = false from hg] at HG
        subst he ho
        clear hv hn hg
        go_enter Tryz.func14, Tryz.ntmps14
        go_upto_region 1 with fail
        rw [← HW.out]
        obtain ⟨y0, y1, y2, y3, y4, -⟩ := HBX.out
        go_wp2_with fail
        refine (HV.out).mono ?_
        rintro e w1 ⟨rfl, b1⟩
        have B1 := HB0.out.trans (b1.mono HB0.out.size)
        have BX1 := Lib.hid (HBX.out.below b1)
        clear y0 y1 y2 y3 y4 b1
        obtain ⟨y0, y1, y2, y3, y4, -⟩ := BX1.out
        go_wp2_with fail
        refine (HN.out _).mono ?_
        rintro e w2 ⟨rfl, b2⟩
        have B2 := B1.trans (b2.mono B1.size)
        have BX2 := Lib.hid (BX1.out.below b2)
        clear y0 y1 y2 y3 y4 b2
        obtain ⟨y0, y1, y2, y3, y4, -⟩ := BX2.out
        go_wp2_with fail
        refine (HG.out _).mono ?_
        rintro e w3 ⟨rfl, b3⟩
        have B3 := B2.trans (b3.mono B2.size)
        go_wp2_with fail
        go_ret2
        exact ⟨_, rfl, own_nil _ _ _ _, B3⟩
      | true =>
        rw [show goodB p.k p.n p.t p.r = true from hg] at HG
        have hvi := validB_iff.1 hv
        have HSO := Lib.hid hvi.1.2
        have h16 : ps.length ≤ 16 := hvi.2
        have HER2 : Hid (er = if (getP ps p.nm).isSome = false ∧ 16 ≤ ps.length then 34 else 0) := Lib.hid (by rw [HER.out]; unfold setE; rw [hv, hn, hg]; rfl)
        clear hv hn hg hvi
        go_enter Tryz.func14, Tryz.ntmps14
        go_upto_region 1 with fail
        rw [← HW.out]
        obtain ⟨y0, y1, y2, y3, y4, -⟩ := HBX.out
        go_wp2_with fail
        refine (HV.out).mono ?_
        rintro e w1 ⟨rfl, b1⟩
        have B1 := HB0.out.trans (b1.mono HB0.out.size)
        have BX1 := Lib.hid (HBX.out.below b1)
        have R1 : Hid (RPr w1 (.slice A ps.length c) ps) := Lib.hid (rc_below HPW.out b1)
        clear y0 y1 y2 y3 y4 b1
        obtain ⟨y0, y1, y2, y3, y4, -⟩ := BX1.out
        go_wp2_with fail
        refine (HN.out _).mono ?_
        rintro e w2 ⟨rfl, b2⟩
        have B2 := B1.trans (b2.mono B1.size)
        have BX2 := Lib.hid (BX1.out.below b2)
        have R2 : Hid (RPr w2 (.slice A ps.length c) ps) := Lib.hid (rc_below R1.out b2)
        clear y0 y1 y2 y3 y4 b2
        obtain ⟨y0, y1, y2, y3, y4, -⟩ := BX2.out
        go_wp2_with fail
        refine (HG.out _).mono ?_
        rintro e w3 ⟨rfl, b3⟩
        have B3 := B2.trans (b3.mono B2.size)
        have BX3 := Lib.hid (BX2.out.below b3)
        have R3 : Hid (RPr w3 (.slice A ps.length c) ps) := Lib.hid (rc_below R2.out b3)
        clear y0 y1 y2 y3 y4 b3
        go_wp2_with fail
        refine (cloneP_c R3.out (cells_one' ps) (by omega)).mono ?_
        rintro e w4 ⟨v4, rfl, o4, b4⟩
        have B4 := B3.trans (b4.mono B3.size)
        have BX4 := Lib.hid (BX3.out.below b4)
        have O4 := Lib.hid (own_lower o4 B3.size)
        have hne4 : ∀ g, v4.ownBlock = some g → w3.heap.size ≤ g := fun g hg => own_base o4 g hg
        have HNE4 := Lib.hid hne4
        clear o4 b4 hne4
        obtain ⟨y0, y1, y2, y3, y4, -⟩ := BX4.out
        go_wp2_with fail
        refine (place_c p.nm (own_rc O4.out) (plMono_of HSO.out p.nm) (by omega)).mono ?_
        rintro e w5 ⟨i, hi, rfl, b5⟩
        have B5 := B4.trans (b5.mono B4.size)
        have BX5 := Lib.hid (BX4.out.below b5)
        have O5 := Lib.hid (own_below O4.out b5)
        have HI := Lib.hid hi
        have hfg := found_get HSO.out hi
        have hsp := set_place hi
        have HFG := Lib.hid hfg
        have HSP := Lib.hid hsp
        have hip : i ≤ ps.length := hi.1
        clear y0 y1 y2 y3 y4 b5 hi hfg hsp O4
        obtain ⟨y0, y1, y2, y3, y4, -⟩ := BX5.out
        cases hf : foundB ps i p.nm with
        | true =>
          have hgs : (getP ps p.nm).isSome = true := by rw [← HFG.out, hf]
          have he : er = 0 := by rw [HER2.out, if_neg (fun h => by rw [hgs] at h; cases h.1)]
          have ho : ol = ps.set i p := by rw [HOL.out]; unfold outL; rw [← HER.out, he, if_pos rfl, HSP.out, if_pos hf]
          obtain ⟨x, hx⟩ : ∃ x, ps[i]? = some x := by
            cases hx : ps[i]? with
            | none => unfold foundB at hf; rw [hx] at hf; cases hf
            | some x => exact ⟨x, rfl⟩
          have hin : i < ps.length := (List.getElem?_eq_some_iff.1 hx).1
          have hinI : (i : Int) < (ps.length : Int) := by omega
          obtain ⟨g, cp, rfl, hg0⟩ : ∃ g cp, v4 = .slice (some ⟨g, 0, none⟩) ps.length cp ∧ w.heap.size < g := by
            rcases O5.out.2 with ⟨_, h0⟩ | ⟨g, cp, cur, h1, _⟩
            · omega
            · exact ⟨g, cp, h1, Nat.lt_of_lt_of_le BX3.out.sz (HNE4.out g (by rw [h1]; rfl))⟩
          obtain ⟨A9, c9, he9, -, hc9⟩ := props_at (own_rc O5.out)
          injection he9 with e9 _ e9c
          subst e9 e9c
          obtain ⟨a, ha, q0, q1, q2, q3, q4⟩ := hc9 i x hx
          injection ha with ha
          subst ha
          rw [add_plain] at q0 q1 q2 q3 q4
          have hfz := own_frozen O5.out
          have hgne : g ≠ w.heap.size := by omega
          have hgne' : w.heap.size ≠ g := by omega
          have s0 := own_set O5.out (.string p.nm) (j := i * 5) (by rw [flat_len Prp.cells 5 (fun _ => rfl)]; omega)
          have s1 := own_set s0 (.int .i64 p.k) (j := i * 5 + 1) (by rw [List.length_set, flat_len Prp.cells 5 (fun _ => rfl)]; omega)
          have s2 := own_set s1 (.int .i64 p.n) (j := i * 5 + 2) (by rw [List.length_set, List.length_set, flat_len Prp.cells 5 (fun _ => rfl)]; omega)
          have s3 := own_set s2 (.string p.t) (j := i * 5 + 3) (by rw [List.length_set, List.length_set, List.length_set, flat_len Prp.cells 5 (fun _ => rfl)]; omega)
          have s4 := own_set s3 (.float .f64 p.r) (j := i * 5 + 4) (by rw [List.length_set, List.length_set, List.length_set, List.length_set, flat_len Prp.cells 5 (fun _ => rfl)]; omega)
          rw [set_flat ps i p hin] at s4
          have bE : Below w.heap.size w (((((w5.setCell ⟨g, i * 5, none⟩ (.string p.nm)).setCell ⟨g, i * 5 + 1, none⟩ (.int .i64 p.k)).setCell ⟨g, i * 5 + 2, none⟩ (.int .i64 p.n)).setCell ⟨g, i * 5 + 3, none⟩ (.string p.t)).setCell ⟨g, i * 5 + 4, none⟩ (.float .f64 p.r)) := ((((B5.setCell (Nat.le_of_lt hg0) _).setCell (Nat.le_of_lt hg0) _).setCell (Nat.le_of_lt hg0) _).setCell (Nat.le_of_lt hg0) _).setCell (Nat.le_of_lt hg0) _
          have S4 := Lib.hid s4
          have BE := Lib.hid bE
          have HSL : Hid (ps.length = (ps.set i p).length) := Lib.hid (by rw [List.length_set])
          have qs := store_float (P := Tryz.prog)
          subst he ho
          clear hf hgs hx hin hc9 s0 s1 s2 s3 s4 bE B5 B4 B3 B2 B1 hg0 hip h16
          go_wp2_with fail
          go_ret2
          exact ⟨_, rfl, by rw [← HSL.out]; exact S4.out, BE.out⟩
        | false =>
          by_cases hr : 16 ≤ ps.length
          · have hgs : (getP ps p.nm).isSome = false := by rw [← HFG.out, hf]
            have he : er = 34 := by rw [HER2.out, if_pos ⟨hgs, hr⟩]
            have ho : ol = [] := by rw [HOL.out]; unfold outL; rw [← HER.out, he]; rfl
            have hrI : (16 : Int) ≤ (ps.length : Int) := by omega
            obtain ⟨A4, c4, rfl⟩ := rc_anyP (own_rc O5.out)
            subst he ho
            clear hf hgs hr h16
            go_wp2_with fail
            go_ret2
            exact ⟨_, rfl, own_nil _ _ _ _, B5⟩
          · have he : er = 0 := by rw [HER2.out, if_neg (fun h => hr h.2)]
            have ho : ol = ps.take i ++ p :: ps.drop i := by rw [HOL.out]; unfold outL; rw [← HER.out, he, if_pos rfl, HSP.out, if_neg (by rw [hf]; exact Bool.false_ne_true)]
            have hrI : (ps.length : Int) < 16 := by omega
            have hal := O5.out.alloc (.cells #[.string p.nm, .int .i64 p.k, .int .i64 p.n, .string p.t, .float .f64 p.r] 32)
            have hins := insP_c (w0 := w) (i := i) hal (B5.alloc B5.size _) (Nat.le_trans B5.size (by simp)) (cells_one' ps) (heap_alloc_new w5 _ : (w5.alloc (.cells p.cells.toArray 32)).heap[w5.heap.size]? = _) (fun e => Nat.lt_irrefl _ (own_ltP O5.out e)) rfl (by intro y hy; exact cells_one' [p] y (by simpa using hy)) hip (by omega)
            rw [← flat_take ps i, ← flat_drop ps i, ← flat_put] at hins
            have HINS := Lib.hid hins
            obtain ⟨A4, c4, rfl⟩ := rc_anyP (own_rc O5.out)
            have HLN : Hid ((ps.take i ++ p :: ps.drop i).length = ps.length + 1) := Lib.hid (by simp only [List.length_append, List.length_cons, List.length_take, List.length_drop]; omega)
            subst he ho
            clear hf hr hal hins hip h16
            go_wp2_with fail
            refine (HINS.out).mono ?_
            rintro e w6 ⟨v6, rfl, o6, b6, -, -⟩
            have O6 := Lib.hid o6
            clear o6
            go_wp2_with fail
            go_ret2
            exact ⟨_, rfl, by rw [HLN.out]; exact O6.out, b6⟩
end Go.Proofs.YtcehkaombanhaaaGreatDoor
