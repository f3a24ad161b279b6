/- Layer 7: the reference's Set. -/
import Derived.Test.YtcehkaombanhaaaGreatDoorPbC
import Derived.Test.YtcehkaombanhaaaGreatDoorRfE
namespace Go.Proofs.YtcehkaombanhaaaGreatDoor
open Go Go.RowKit
open Go.ChangeShapes Go.WideShapes Go.Deep Go.Sort
set_option linter.unusedSimpArgs false
set_option linter.unusedVariables false

/-- What the reference still lays. -/
def refL (p : Prp) : Bool → List Prp → List Prp
  | l, [] => if l then [] else [p]
  | l, x :: r =>
    let here := !l && !(decide (cbN x.nm p.nm < 0))
    (if here then [p] else []) ++ (if x.nm = p.nm then [] else [x]) ++ refL p (l || here) r
theorem refL_true {p : Prp} : ∀ {r : List Prp}, (∀ x ∈ r, x.nm ≠ p.nm) → refL p true r = r
  | [], _ => rfl
  | x :: r, h => by
    unfold refL
    simp only [Bool.not_true, Bool.false_and, Bool.true_or]
    rw [if_neg (h x (by simp)), refL_true fun y hy => h y (List.mem_cons_of_mem _ hy)]
    rfl
theorem refL_set {p : Prp} : ∀ {ps : List Prp}, SortN ps → refL p false ps = setL ps p
  | [], _ => rfl
  | x :: r, hs => by
    have h' := List.pairwise_cons.1 hs
    unfold refL setL
    by_cases hlt : cbN x.nm p.nm < 0
    · have hne : x.nm ≠ p.nm := fun e => by rw [e, cbN_self] at hlt; omega
      simp only [Bool.not_false, Bool.true_and, decide_eq_true hlt, Bool.not_true, Bool.false_or]
      rw [if_neg hne, if_pos hlt, refL_set h'.2]
      rfl
    · simp only [Bool.not_false, Bool.true_and, decide_eq_false hlt, Bool.false_or]
      rw [if_neg hlt]
      by_cases he : x.nm = p.nm
      · rw [if_pos he, if_pos he, refL_true fun y hy e => by have := h'.1 y hy; rw [he, e, cbN_self] at this; omega]
        rfl
      · have hp := cbN_flip hlt he
        rw [if_neg he, if_neg he, refL_true fun y hy e => by have := cbN_lt hp (h'.1 y hy); rw [e, cbN_self] at this; omega]
        rfl
theorem refL_step (p x : Prp) (l : Bool) (r : List Prp) : refL p l (x :: r) = (if (!l && !(decide (cbN x.nm p.nm < 0))) = true then [p] else []) ++ (if x.nm = p.nm then [] else [x]) ++ refL p (l || (!l && !(decide (cbN x.nm p.nm < 0)))) r := rfl
theorem prop_row (W : World) (p : Prp) : RC (W.alloc (.cells #[.string p.nm, .int .i64 p.k, .int .i64 p.n, .string p.t, .float .f64 p.r] 32)) (.slice (some ⟨W.heap.size, 0, none⟩) 1 1) 1 5 p.cells :=
  rc_new W 32 1 5 p.cells rfl (by omega)
theorem bel_alloc' (w : World) (o : Obj) : Below w.heap.size w (w.alloc o) := (Below.refl _ _).alloc (Nat.le_refl _) _
theorem BoxP.grown {W W1 : World} {k : Nat} {p : Prp} {r : Option Nat} (h : BoxP W k p) (g : W.grownBy W1 r) (hne : r ≠ some k) : BoxP W1 k p := by
  have e : ∀ j, W1.cell? ⟨k, j, none⟩ = W.cell? ⟨k, j, none⟩ := fun j => World.cell?_of_block (w := W) (g.block k h.sz (fun e => hne e.symm))
  exact ⟨(e 0).trans h.p0, (e 1).trans h.p1, (e 2).trans h.p2, (e 3).trans h.p3, (e 4).trans h.p4, Nat.lt_of_lt_of_le h.sz g.size⟩

set_option maxRecDepth 100000 in
set_option maxHeartbeats 4000000 in
theorem refSet_c {w : World} {v : Value} {ps : List Prp} (p : Prp) (hp : RPr w v ps) (hsz : ∀ x ∈ ps, x.nm.size ≤ 140737488351232 ∧ x.r < 18446744073709551616) (hpn : p.nm.size ≤ 140737488351232) (hpr : p.r < 18446744073709551616) :
    Calls Tryz.prog 15 #[v, .agg #[.string p.nm, .int .i64 p.k, .int .i64 p.n, .string p.t, .float .f64 p.r]] w fun e w' => ∃ v', e = .returned (.tuple #[v', .int .i64 (setE ps p)]) ∧ w'.ownsRow w.heap.size 32 5 v' (outL ps p).length ((outL ps p).flatMap Prp.cells) ∧ Below w.heap.size w w' := by
  obtain ⟨W, hW⟩ : ∃ W, W = w.alloc (.cells #[.string p.nm, .int .i64 p.k, .int .i64 p.n, .string p.t, .float .f64 p.r] 32) := ⟨_, rfl⟩
  have b0 : Below w.heap.size w W := by rw [hW]; exact (Below.refl _ _).alloc (Nat.le_refl _) _
  have BX : BoxP W w.heap.size p := by rw [hW]; exact boxP_new w p
  have HW := Lib.hid hW
  have hpW := rc_below hp b0
  have HV := Lib.hid (refValid_c hpW hsz)
  have HN := Lib.hid (fun w => refName_c (w := w) p.nm hpn)
  have HG := Lib.hid (fun w => refGood_c (w := w) p.k p.n p.t p.r hpr)
  have HPW : Hid (RPr W v ps) := Lib.hid hpW
  obtain ⟨A, c, rfl⟩ := rc_anyP hp
  have HB0 := Lib.hid b0
  have HBX := Lib.hid BX
  have qs := store_float (P := Tryz.prog)
  obtain ⟨er, her⟩ : ∃ er, er = setE ps p := ⟨_, rfl⟩
  obtain ⟨ol, hol⟩ : ∃ ol, ol = outL ps p := ⟨_, rfl⟩
  rw [← her, ← hol]
  have HER := Lib.hid her
  have HOL := Lib.hid hol
  clear hW hp hsz hpn hpW her hol b0 BX hpr
  cases hv : validB ps with
  | false =>
    have he : er = 36 := by rw [HER.out]; unfold setE; rw [hv]; rfl
    have ho : ol = [] := by rw [HOL.out]; unfold outL; rw [← HER.out, he]; rfl
    rw [hv] at HV
    subst he ho
    clear hv
    go_enter Tryz.func15, Tryz.ntmps15
    go_upto_region 1 with fail
    rw [← HW.out]
    obtain ⟨y0, y1, y2, y3, y4, -⟩ := HBX.out
    go_wp2_with fail
    refine (HV.out).mono ?_
    rintro e w1 ⟨rfl, b1⟩
    have B1 := HB0.out.trans (b1.mono HB0.out.size)
    go_wp2_with fail
    go_ret2
    exact ⟨_, rfl, own_nil _ _ _ _, B1⟩
  | true =>
    rw [hv] at HV
    cases hn : nameB p.nm with
    | false =>
      have he : er = 36 := by rw [HER.out]; unfold setE; rw [hv, hn]; rfl
      have ho : ol = [] := by rw [HOL.out]; unfold outL; rw [← HER.out, he]; rfl
      rw [hn] at HN
      subst he ho
      clear hv hn
      go_enter Tryz.func15, Tryz.ntmps15
      go_upto_region 1 with fail
      rw [← HW.out]
      obtain ⟨y0, y1, y2, y3, y4, -⟩ := HBX.out
      go_wp2_with fail
      refine (HV.out).mono ?_
      rintro e w1 ⟨rfl, b1⟩
      have B1 := HB0.out.trans (b1.mono HB0.out.size)
      have BX1 := Lib.hid (HBX.out.below b1)
      clear y0 y1 y2 y3 y4 b1
      obtain ⟨y0, y1, y2, y3, y4, -⟩ := BX1.out
      go_wp2_with fail
      refine (HN.out _).mono ?_
      rintro e w2 ⟨rfl, rfl⟩
      go_wp2_with fail
      go_ret2
      exact ⟨_, rfl, own_nil _ _ _ _, B1⟩
    | true =>
      rw [hn] at HN
      cases hg : goodB p.k p.n p.t p.r with
      | false =>
        have hg' : p.good = false := hg
        have he : er = 36 := by rw [HER.out]; unfold setE; rw [hv, hn, hg']; rfl
        have ho : ol = [] := by rw [HOL.out]; unfold outL; rw [← HER.out, he]; rfl
        rw [hg] at HG
        subst he ho
        clear hv hn hg hg'
        go_enter Tryz.func15, Tryz.ntmps15
        go_upto_region 1 with fail
        rw [← HW.out]
        obtain ⟨y0, y1, y2, y3, y4, -⟩ := HBX.out
        go_wp2_with fail
        refine (HV.out).mono ?_
        rintro e w1 ⟨rfl, b1⟩
        have B1 := HB0.out.trans (b1.mono HB0.out.size)
        have BX1 := Lib.hid (HBX.out.below b1)
        clear y0 y1 y2 y3 y4 b1
        obtain ⟨y0, y1, y2, y3, y4, -⟩ := BX1.out
        go_wp2_with fail
        refine (HN.out _).mono ?_
        rintro e w2 ⟨rfl, rfl⟩
        go_wp2_with fail
        refine (HG.out _).mono ?_
        rintro e w3 ⟨rfl, b3⟩
        have B3 := B1.trans (b3.mono B1.size)
        go_wp2_with fail
        go_ret2
        exact ⟨_, rfl, own_nil _ _ _ _, B3⟩
      | true =>
        have hg' : p.good = true := hg
        rw [hg] at HG
        have hvi := validB_iff.1 hv
        have h16 : ps.length ≤ 16 := hvi.2
        have HER2 : Hid (er = if (getP ps p.nm).isSome = false ∧ 16 ≤ ps.length then 34 else 0) := Lib.hid (by rw [HER.out]; unfold setE; rw [hv, hn, hg']; rfl)
        have HLEN := Lib.hid (setL_len (p := p) hvi.1.2)
        have HRL := Lib.hid (refL_set (p := p) hvi.1.2)
        obtain ⟨ns, hns⟩ : ∃ ns, ns = setL ps p := ⟨_, rfl⟩
        have HNS := Lib.hid hns
        rw [← hns] at HLEN HRL
        have H17 : Hid (ns.length ≤ 17) := Lib.hid (by rw [HLEN.out]; split <;> omega)
        have H16 := Lib.hid h16
        clear hv hn hg hg' hvi hns h16
        go_enter Tryz.func15, Tryz.ntmps15
        go_upto_region 1 with fail
        rw [← HW.out]
        obtain ⟨y0, y1, y2, y3, y4, -⟩ := HBX.out
        go_wp2_with fail
        refine (HV.out).mono ?_
        rintro e w1 ⟨rfl, b1⟩
        have BX1 := Lib.hid (HBX.out.below b1)
        clear y0 y1 y2 y3 y4
        obtain ⟨y0, y1, y2, y3, y4, -⟩ := BX1.out
        go_wp2_with fail
        refine (HN.out _).mono ?_
        rintro e w2 ⟨rfl, rfl⟩
        go_wp2_with fail
        refine (HG.out _).mono ?_
        rintro e w3 ⟨rfl, b3⟩
        have B3 := b1.trans (b3.mono b1.size)
        clear y0 y1 y2 y3 y4 b1 b3
        go_wp2_with fail
        go_loopw [6, 7, 27] (fun o l i wr => ∃ (k : Nat) (acc : List Prp) (lb : Bool), k ≤ ps.length ∧ i = .int .i64 k ∧ l = .bool lb ∧ Hid (wr.ownsRow W.heap.size 32 5 o acc.length (acc.flatMap Prp.cells)) ∧ Hid (acc ++ refL p lb (ps.drop k) = ns) ∧ Hid (Below W.heap.size W wr)) (fun _ _ i _ => ps.length - (intOf i).toNat)
        case atStart => exact ⟨0, [], false, Nat.zero_le _, rfl, rfl, Lib.hid (own_nil _ _ _ _), Lib.hid HRL.out, Lib.hid B3⟩
        case round =>
          clear B3
          obtain ⟨k, acc, lb, hk, rfl, rfl, HO, HA, BW⟩ := hrel
          by_cases hlt : k < ps.length
          · obtain ⟨x, hx⟩ : ∃ x, ps[k]? = some x := ⟨_, List.getElem?_eq_getElem hlt⟩
            obtain ⟨A9, c9, he9, -, hc9⟩ := props_at HPW.out
            injection he9 with e9 _ e9c
            subst e9 e9c
            obtain ⟨a, rfl, q0, q1, q2, q3, q4⟩ := hc9 k x hx
            have p0 := cell_below BW.out (World.block_lt_of_cell? W _ q0) q0
            have p1 := cell_below BW.out (World.block_lt_of_cell? W _ q1) q1
            have p2 := cell_below BW.out (World.block_lt_of_cell? W _ q2) q2
            have p3 := cell_below BW.out (World.block_lt_of_cell? W _ q3) q3
            have p4 := cell_below BW.out (World.block_lt_of_cell? W _ q4) q4
            have hdk : ps.drop k = x :: ps.drop (k + 1) := by rw [List.drop_eq_getElem_cons hlt]; congr 1; rw [List.getElem?_eq_getElem hlt] at hx; injection hx
            have hst := HA.out
            rw [hdk, refL_step] at hst
            have HST := Lib.hid hst
            have HLT := Lib.hid hlt
            have HWK1 := Lib.hid (wk1 k 16 (by have := H16.out; omega) (by omega))
            have HAL : Hid (acc.length ≤ 17) := Lib.hid (by have h1 := H17.out; have h2 := congrArg List.length HA.out; rw [List.length_append] at h2; omega)
            obtain ⟨V1, hV1⟩ : ∃ V1, V1 = wr.alloc (.cells #[.string x.nm, .int .i64 x.k, .int .i64 x.n, .string x.t, .float .f64 x.r] 32) := ⟨_, rfl⟩
            have c1 := bel_alloc' wr (.cells #[.string x.nm, .int .i64 x.k, .int .i64 x.n, .string x.t, .float .f64 x.r] 32)
            have BXX := Lib.hid (boxP_new wr x)
            have O1 := Lib.hid (HO.out.alloc (.cells #[.string x.nm, .int .i64 x.k, .int .i64 x.n, .string x.t, .float .f64 x.r] 32))
            have B1 := Lib.hid (BW.out.alloc BW.out.size (.cells #[.string x.nm, .int .i64 x.k, .int .i64 x.n, .string x.t, .float .f64 x.r] 32))
            rw [← hV1] at c1 BXX O1 B1
            have BXP := Lib.hid ((HBX.out.below BW.out).below c1)
            have HV1 := Lib.hid hV1
            have hne1 : u6.ownBlock ≠ some wr.heap.size := fun e => Nat.lt_irrefl _ (own_ltP HO.out e)
            have hne2 : u6.ownBlock ≠ some w.heap.size := fun e => by have h1 := own_base HO.out _ e; have h2 := HBX.out.sz; omega
            have HNE1 := Lib.hid hne1
            have HNE2 := Lib.hid hne2
            clear hx hc9 q0 q1 q2 q3 q4 hdk hst hlt hV1 c1 hne1 hne2 hk
            go_upto_region 8 with fail
            rw [← HV1.out]
            obtain ⟨y0, y1, y2, y3, y4, -⟩ := BXP.out
            obtain ⟨x0, x1, x2, x3, x4, -⟩ := BXX.out
            by_cases he : x.nm = p.nm
            · cases lb with
              | true =>
                have hA : acc ++ refL p true (ps.drop (k + 1)) = ns := by
                  have h := HST.out
                  simp only [Bool.not_true, Bool.false_and, Bool.true_or, if_pos he, Bool.false_eq_true, if_false, List.append_nil, List.nil_append] at h
                  exact h
                have HA2 := Lib.hid hA
                rw [he] at x0
                clear he hA
                go_wp2_with fail
                go_roundw
                case rel => exact ⟨k + 1, acc, true, HLT.out, by first | rfl | (rw [HWK1.out]; rfl), rfl, O1, HA2, B1⟩
                case measure => first | exact round_less1 HLT.out | (rw [HWK1.out]; exact round_less1 HLT.out)
              | false =>
                have hcb : ¬ cbN x.nm p.nm < 0 := by rw [he, cbN_self]; omega
                have hA : (acc ++ [p]) ++ refL p true (ps.drop (k + 1)) = ns := by
                  have h := HST.out
                  simp only [decide_eq_false hcb, Bool.not_false, Bool.true_and, Bool.false_or, if_pos he, if_true, List.append_nil] at h
                  rw [List.append_assoc]
                  exact h
                have HA2 := Lib.hid hA
                have HE := Lib.hid he
                have hls : Go.Op.bytesLess p.nm.toList p.nm.toList = false := by
                  cases h : Go.Op.bytesLess p.nm.toList p.nm.toList with
                  | false => rfl
                  | true => have := (less_cb _ _).1 h; rw [cbN_self] at this; omega
                rw [he] at x0
                clear he hA hcb
                go_upto_region 9 with fail
                go_upto_region 10 with (at_builtin; refine app_own (w0 := W) W.heap.size 30 32 5 56 _ Tryz.underlying30 infoP rfl (by decide) rfl (.tmp 40) (.tmp 42) rfl u6 _ (acc).length 1 ((acc).flatMap Prp.cells) p.cells rfl rfl (O1.out.alloc _) (prop_row V1 p) (fun y hy => cells_one' [p] y (by simpa using hy)) (B1.out.alloc B1.out.size _) (by have := HAL.out; omega) (by have := HAL.out; omega) (Nat.le_trans B1.out.size (by simp)) ?_; intro v5 w5 o5 b5 g5 k5; have O5 := Lib.hid o5; have B5 := Lib.hid b5; have G5 := Lib.hid g5; have K5 := Lib.hid k5; clear o5 b5 g5 k5)
                have BXX5 := Lib.hid ((BXX.out.below (bel_alloc' V1 (.cells #[.string p.nm, .int .i64 p.k, .int .i64 p.n, .string p.t, .float .f64 p.r] 32))).grown G5.out HNE1.out)
                have BXP5 := Lib.hid ((BXP.out.below (bel_alloc' V1 (.cells #[.string p.nm, .int .i64 p.k, .int .i64 p.n, .string p.t, .float .f64 p.r] 32))).grown G5.out HNE2.out)
                clear y0 y1 y2 y3 y4 x0 x1 x2 x3 x4
                obtain ⟨y0, y1, y2, y3, y4, -⟩ := BXP5.out
                obtain ⟨x0, x1, x2, x3, x4, -⟩ := BXX5.out
                rw [HE.out] at x0
                have O6 : Hid (w5.ownsRow W.heap.size 32 5 v5 (acc ++ [p]).length ((acc ++ [p]).flatMap Prp.cells)) := Lib.hid (by have h := O5.out; rw [List.length_append, List.flatMap_append]; simpa using h)
                go_wp2_with fail
                go_roundw
                case rel => exact ⟨k + 1, acc ++ [p], true, HLT.out, by first | rfl | (rw [HWK1.out]; rfl), rfl, O6, HA2, B5⟩
                case measure => first | exact round_less1 HLT.out | (rw [HWK1.out]; exact round_less1 HLT.out)
            · have hnb := str_ne he
              have HE := Lib.hid he
              cases lb with
              | true =>
                have hA : (acc ++ [x]) ++ refL p true (ps.drop (k + 1)) = ns := by
                  have h := HST.out
                  simp only [Bool.not_true, Bool.false_and, Bool.true_or, if_neg he, Bool.false_eq_true, if_false, List.nil_append] at h
                  rw [List.append_assoc]
                  exact h
                have HA2 := Lib.hid hA
                clear he hA
                go_upto_region 12 with fail
                go_upto_region 13 with (at_builtin; refine app_own (w0 := W) W.heap.size 30 32 5 56 _ Tryz.underlying30 infoP rfl (by decide) rfl (.tmp 49) (.tmp 51) rfl u6 _ (acc).length 1 ((acc).flatMap Prp.cells) x.cells rfl rfl (O1.out.alloc _) (prop_row V1 x) (fun y hy => cells_one' [x] y (by simpa using hy)) (B1.out.alloc B1.out.size _) (by have := HAL.out; omega) (by have := HAL.out; omega) (Nat.le_trans B1.out.size (by simp)) ?_; intro v5 w5 o5 b5 g5 k5; have O5 := Lib.hid o5; have B5 := Lib.hid b5; have G5 := Lib.hid g5; have K5 := Lib.hid k5; clear o5 b5 g5 k5)
                have O6 : Hid (w5.ownsRow W.heap.size 32 5 v5 (acc ++ [x]).length ((acc ++ [x]).flatMap Prp.cells)) := Lib.hid (by have h := O5.out; rw [List.length_append, List.flatMap_append]; simpa using h)
                go_wp2_with fail
                go_roundw
                case rel => exact ⟨k + 1, acc ++ [x], true, HLT.out, by first | rfl | (rw [HWK1.out]; rfl), rfl, O6, HA2, B5⟩
                case measure => first | exact round_less1 HLT.out | (rw [HWK1.out]; exact round_less1 HLT.out)
              | false =>
                by_cases hcb : cbN x.nm p.nm < 0
                · have hA : (acc ++ [x]) ++ refL p false (ps.drop (k + 1)) = ns := by
                    have h := HST.out
                    simp only [decide_eq_true hcb, Bool.not_true, Bool.and_false, Bool.or_false, if_neg he, Bool.false_eq_true, if_false, List.nil_append] at h
                    rw [List.append_assoc]
                    exact h
                  have HA2 := Lib.hid hA
                  have hls : Go.Op.bytesLess p.nm.toList x.nm.toList = false := by
                    cases h : Go.Op.bytesLess p.nm.toList x.nm.toList with
                    | false => rfl
                    | true => have := cbN_lt hcb ((less_cb _ _).1 h); rw [cbN_self] at this; omega
                  have hnb2 := str_ne (Ne.symm he)
                  clear he hA hcb
                  go_upto_region 12 with fail
                  go_upto_region 13 with (at_builtin; refine app_own (w0 := W) W.heap.size 30 32 5 56 _ Tryz.underlying30 infoP rfl (by decide) rfl (.tmp 49) (.tmp 51) rfl u6 _ (acc).length 1 ((acc).flatMap Prp.cells) x.cells rfl rfl (O1.out.alloc _) (prop_row V1 x) (fun y hy => cells_one' [x] y (by simpa using hy)) (B1.out.alloc B1.out.size _) (by have := HAL.out; omega) (by have := HAL.out; omega) (Nat.le_trans B1.out.size (by simp)) ?_; intro v5 w5 o5 b5 g5 k5; have O5 := Lib.hid o5; have B5 := Lib.hid b5; have G5 := Lib.hid g5; have K5 := Lib.hid k5; clear o5 b5 g5 k5)
                  have O6 : Hid (w5.ownsRow W.heap.size 32 5 v5 (acc ++ [x]).length ((acc ++ [x]).flatMap Prp.cells)) := Lib.hid (by have h := O5.out; rw [List.length_append, List.flatMap_append]; simpa using h)
                  go_wp2_with fail
                  go_roundw
                  case rel => exact ⟨k + 1, acc ++ [x], false, HLT.out, by first | rfl | (rw [HWK1.out]; rfl), rfl, O6, HA2, B5⟩
                  case measure => first | exact round_less1 HLT.out | (rw [HWK1.out]; exact round_less1 HLT.out)
                · have hA : (acc ++ [p] ++ [x]) ++ refL p true (ps.drop (k + 1)) = ns := by
                    have h := HST.out
                    simp only [decide_eq_false hcb, Bool.not_false, Bool.true_and, Bool.false_or, if_neg he, if_true] at h
                    rw [← h]
                    simp
                  have HA2 := Lib.hid hA
                  have hls : Go.Op.bytesLess p.nm.toList x.nm.toList = true := (less_cb _ _).2 (cbN_flip hcb he)
                  clear he hA hcb
                  go_upto_region 9 with fail
                  go_upto_region 10 with (at_builtin; refine app_own (w0 := W) W.heap.size 30 32 5 56 _ Tryz.underlying30 infoP rfl (by decide) rfl (.tmp 40) (.tmp 42) rfl u6 _ (acc).length 1 ((acc).flatMap Prp.cells) p.cells rfl rfl (O1.out.alloc _) (prop_row V1 p) (fun y hy => cells_one' [p] y (by simpa using hy)) (B1.out.alloc B1.out.size _) (by have := HAL.out; omega) (by have := HAL.out; omega) (Nat.le_trans B1.out.size (by simp)) ?_; intro v5 w5 o5 b5 g5 k5; have O5 := Lib.hid o5; have B5 := Lib.hid b5; have G5 := Lib.hid g5; have K5 := Lib.hid k5; clear o5 b5 g5 k5)
                  have BXX5 := Lib.hid ((BXX.out.below (bel_alloc' V1 (.cells #[.string p.nm, .int .i64 p.k, .int .i64 p.n, .string p.t, .float .f64 p.r] 32))).grown G5.out HNE1.out)
                  have BXP5 := Lib.hid ((BXP.out.below (bel_alloc' V1 (.cells #[.string p.nm, .int .i64 p.k, .int .i64 p.n, .string p.t, .float .f64 p.r] 32))).grown G5.out HNE2.out)
                  clear y0 y1 y2 y3 y4 x0 x1 x2 x3 x4
                  obtain ⟨y0, y1, y2, y3, y4, -⟩ := BXP5.out
                  obtain ⟨x0, x1, x2, x3, x4, -⟩ := BXX5.out
                  have O6 : Hid (w5.ownsRow W.heap.size 32 5 v5 (acc ++ [p]).length ((acc ++ [p]).flatMap Prp.cells)) := Lib.hid (by have h := O5.out; rw [List.length_append, List.flatMap_append]; simpa using h)
                  have HAL2 : Hid ((acc ++ [p]).length ≤ 18) := Lib.hid (by have := HAL.out; rw [List.length_append]; simp; omega)
                  go_upto_region 12 with fail
                  go_upto_region 13 with (at_builtin; refine app_own (w0 := W) W.heap.size 30 32 5 56 _ Tryz.underlying30 infoP rfl (by decide) rfl (.tmp 49) (.tmp 51) rfl v5 _ (acc ++ [p]).length 1 ((acc ++ [p]).flatMap Prp.cells) x.cells rfl rfl (O6.out.alloc _) (prop_row w5 x) (fun y hy => cells_one' [x] y (by simpa using hy)) (B5.out.alloc B5.out.size _) (by have := HAL2.out; omega) (by have := HAL2.out; omega) (Nat.le_trans B5.out.size (by simp)) ?_; intro v7 w7 o7 b7 g7 k7; have O7 := Lib.hid o7; have B7 := Lib.hid b7; have G7 := Lib.hid g7; have K7 := Lib.hid k7; clear o7 b7 g7 k7)
                  have O8 : Hid (w7.ownsRow W.heap.size 32 5 v7 (acc ++ [p] ++ [x]).length ((acc ++ [p] ++ [x]).flatMap Prp.cells)) := Lib.hid (by have h := O7.out; rw [List.length_append, List.flatMap_append]; simpa using h)
                  go_wp2_with fail
                  go_roundw
                  case rel => exact ⟨k + 1, acc ++ [p] ++ [x], true, HLT.out, by first | rfl | (rw [HWK1.out]; rfl), rfl, O8, HA2, B7⟩
                  case measure => first | exact round_less1 HLT.out | (rw [HWK1.out]; exact round_less1 HLT.out)
          · have hk2 : k = ps.length := by omega
            subst hk2
            have hA0 := HA.out
            rw [List.drop_length] at hA0
            have hEL : (er = 34 ∧ 16 < ns.length ∧ ol = []) ∨ (er = 0 ∧ ns.length ≤ 16 ∧ ol = ns) := by
              have h1 := HER2.out
              have h2 := HLEN.out
              have h3 := H16.out
              have h4 := HOL.out
              unfold outL at h4
              rw [← HER.out, ← HNS.out] at h4
              by_cases hc : (getP ps p.nm).isSome = false ∧ 16 ≤ ps.length
              · rw [if_pos hc] at h1
                rw [hc.1] at h2
                exact .inl ⟨h1, by rw [h2]; simp; omega, by rw [h4, h1]; rfl⟩
              · rw [if_neg hc] at h1
                refine .inr ⟨h1, ?_, by rw [h4, h1]; rfl⟩
                rw [h2]
                split
                · exact h3
                · rename_i hs
                  have : ¬ 16 ≤ ps.length := fun h => hc ⟨by simpa using hs, h⟩
                  omega
            have HAL : Hid (acc.length ≤ 17) := Lib.hid (by have h1 := H17.out; have h2 := congrArg List.length HA.out; rw [List.length_append] at h2; omega)
            have hbp : BoxP wr w.heap.size p := HBX.out.below BW.out
            obtain ⟨y0, y1, y2, y3, y4, -⟩ := hbp
            clear hlt hk HA
            cases lb with
            | true =>
              have hacc : acc = ns := by rw [← hA0]; unfold refL; simp
              have HN2 : Hid (wr.ownsRow W.heap.size 32 5 u6 ns.length (ns.flatMap Prp.cells)) := Lib.hid (by rw [← hacc]; exact HO.out)
              clear hacc hA0
              obtain ⟨A6, c6, rfl⟩ := rc_anyP (own_rc HN2.out)
              have HF := Lib.hid (own_lower HN2.out HB0.out.size)
              have HBE := Lib.hid (HB0.out.trans (BW.out.mono HB0.out.size))
              rcases hEL with ⟨h1, h2, h3⟩ | ⟨h1, h2, h3⟩
              · subst h1 h3
                have h2' : (16 : Int) < (ns.length : Int) := by omega
                go_wp2_with fail
                go_ret2
                exact ⟨_, rfl, own_nil _ _ _ _, HBE.out⟩
              · subst h1 h3
                have h2' : (ol.length : Int) ≤ 16 := by omega
                go_wp2_with fail
                go_ret2
                exact ⟨_, rfl, HF.out, HBE.out⟩
            | false =>
              have hacc : acc ++ [p] = ns := by rw [← hA0]; unfold refL; simp
              have HAC := Lib.hid hacc
              clear hacc hA0
              go_upto_region 16 with (at_builtin; refine app_own (w0 := W) W.heap.size 30 32 5 56 _ Tryz.underlying30 infoP rfl (by decide) rfl (.tmp 56) (.tmp 58) rfl u6 _ (acc).length 1 ((acc).flatMap Prp.cells) p.cells rfl rfl (HO.out.alloc _) (prop_row wr p) (fun y hy => cells_one' [p] y (by simpa using hy)) (BW.out.alloc BW.out.size _) (by have := HAL.out; omega) (by have := HAL.out; omega) (Nat.le_trans BW.out.size (by simp)) ?_; intro v5 w5 o5 b5 g5 k5; have O5 := Lib.hid o5; have B5 := Lib.hid b5; have G5 := Lib.hid g5; have K5 := Lib.hid k5; clear o5 b5 g5 k5)
              have HN2 : Hid (w5.ownsRow W.heap.size 32 5 v5 ns.length (ns.flatMap Prp.cells)) := Lib.hid (by have h := O5.out; rw [← HAC.out, List.length_append, List.flatMap_append]; simpa using h)
              have HBE := Lib.hid (HB0.out.trans (B5.out.mono HB0.out.size))
              clear O5 G5 K5 y0 y1 y2 y3 y4
              obtain ⟨A6, c6, rfl⟩ := rc_anyP (own_rc HN2.out)
              have HF := Lib.hid (own_lower HN2.out HB0.out.size)
              rcases hEL with ⟨h1, h2, h3⟩ | ⟨h1, h2, h3⟩
              · subst h1 h3
                have h2' : (16 : Int) < (ns.length : Int) := by omega
                go_wp2_with fail
                go_ret2
                exact ⟨_, rfl, own_nil _ _ _ _, HBE.out⟩
              · subst h1 h3
                have h2' : (ol.length : Int) ≤ 16 := by omega
                go_wp2_with fail
                go_ret2
                exact ⟨_, rfl, HF.out, HBE.out⟩
end Go.Proofs.YtcehkaombanhaaaGreatDoor
