/- PropSets: the walk. -/
import Derived.Test.YtcehkaombanhaaaGreatDoorPbC
import Derived.Test.YtcehkaombanhaaaGreatDoorPbI
import Derived.Test.YtcehkaombanhaaaGreatDoorOpenP
namespace Go.Proofs.YtcehkaombanhaaaGreatDoor
open Go Go.RowKit
open Go.ChangeShapes Go.WideShapes Go.Deep Go.Sort
set_option linter.unusedSimpArgs false
set_option linter.unusedVariables false

theorem name_size {s : ByteArray} (h : nameB s = true) : s.size ≤ 16 := by
  unfold nameB at h
  simp only [Bool.and_eq_true, decide_eq_true_eq] at h
  exact h.1.2
theorem valid_names {ps : List Prp} (h : validB ps = true) : ∀ x ∈ ps, x.nm.size ≤ 140737488351232 := fun x hx => by
  have := name_size ((validB_iff.1 h).1.1 x hx).1
  omega

theorem get_lit {w : World} {v : Value} {ps : List Prp} (nm : ByteArray) (hp : RPr w v ps) {r : Option Val} (hr : getP ps nm = r) {gv : Val} (hg : gv = r.getD noV) {hd : Bool} (hh : hd = r.isSome) :
    Calls Tryz.prog 18 #[v, .string nm] w fun e w' => e = .returned (.tuple #[.agg #[.int .i64 gv.k, .int .i64 gv.n, .string gv.t, .float .f64 gv.r], .bool hd]) ∧ Below w.heap.size w w' := by
  subst hg hh
  have h := get_c nm hp
  rw [hr] at h
  exact h
theorem setE_cases {ls : List Prp} {p : Prp} (hv : validB ls = true) : (setE ls p = 0 ∧ outL ls p = setL ls p) ∨ (setE ls p = 34 ∧ outL ls p = [] ∧ (getP ls p.nm).isSome = false ∧ 16 ≤ ls.length) ∨ (setE ls p = 36 ∧ outL ls p = [] ∧ (nameB p.nm = true → p.good = false)) := by
  unfold outL
  by_cases h1 : (validB ls && nameB p.nm && p.good) = true
  · by_cases h2 : (getP ls p.nm).isSome = false ∧ 16 ≤ ls.length
    · have e : setE ls p = 34 := by unfold setE; rw [if_pos h1, if_pos h2]
      exact .inr (.inl ⟨e, by rw [e]; rfl, h2⟩)
    · have e : setE ls p = 0 := by unfold setE; rw [if_pos h1, if_neg h2]
      exact .inl ⟨e, by rw [e]; rfl⟩
  · have e : setE ls p = 36 := by unfold setE; rw [if_neg h1]
    refine .inr (.inr ⟨e, by rw [e]; rfl, fun hn => ?_⟩)
    cases hg : p.good with
    | false => rfl
    | true => exact absurd (by rw [hv, hn, hg]; rfl) h1
/-- A property's value, read back. -/
structure BoxV (W : World) (k : Nat) (a : Val) : Prop where
  v0 : W.cell? ⟨k, 0, none⟩ = some (.int .i64 a.k)
  v1 : W.cell? ⟨k, 1, none⟩ = some (.int .i64 a.n)
  v2 : W.cell? ⟨k, 2, none⟩ = some (.string a.t)
  v3 : W.cell? ⟨k, 3, none⟩ = some (.float .f64 a.r)
  sz : k < W.heap.size
theorem BoxV.below {W W1 : World} {k : Nat} {p : Val} (h : BoxV W k p) (b : Below W.heap.size W W1) : BoxV W1 k p :=
  ⟨cell_below b h.sz h.v0, cell_below b h.sz h.v1, cell_below b h.sz h.v2, cell_below b h.sz h.v3, Nat.lt_of_lt_of_le h.sz b.size⟩
theorem boxV_new (w : World) (a : Val) : BoxV (w.alloc (.cells #[.int .i64 a.k, .int .i64 a.n, .string a.t, .float .f64 a.r] 24)) w.heap.size a :=
  ⟨new_cell (w := w) 0 _ rfl, new_cell (w := w) 1 _ rfl, new_cell (w := w) 2 _ rfl, new_cell (w := w) 3 _ rfl, by simp⟩
theorem bel_alloc (w : World) (o : Obj) : Below w.heap.size w (w.alloc o) := (Below.refl _ _).alloc (Nat.le_refl _) _

/-- What the loop carries. -/
structure SetsInv (w0 wr : World) (ls : List Prp) (v : Value) : Prop where
  rd : RPr wr v ls
  ok : validB ls = true
  bel : Below w0.heap.size w0 wr

set_option maxRecDepth 100000 in
set_option maxHeartbeats 8000000 in
theorem propSets_c {w : World} (hG : G w) {v u : Value} {ps ms : List Prp} (hp : RPr w v ps) (hm : RPr w u ms) (cp : ∀ p ∈ ps, p.came) (cm : ∀ p ∈ ms, p.came) :
    Calls Tryz.prog 5 #[v, u] w fun e w' => e = .returned (.bool true) ∧ Below w.heap.size w w' := by
  have HP := Lib.hid hp
  have HM := Lib.hid hm
  have HCM := Lib.hid cm
  have HL1 := Lib.hid (fun w1 (b : Below w.heap.size w w1) => long_c (w := w1) (rc_below hp b) (fun p hp' => ⟨(cp p hp').1, (cp p hp').2.1⟩))
  have HL2 := Lib.hid (fun w1 (b : Below w.heap.size w w1) => long_c (w := w1) (rc_below hm b) (fun p hp' => ⟨(cm p hp').1, (cm p hp').2.1⟩))
  have HV := Lib.hid (fun w1 (b : Below w.heap.size w w1) => valid_c (w := w1) (rc_below hp b) (fun p hp' => (cp p hp').1))
  have HWK := Lib.hid (wakes_c hG)
  obtain ⟨A, c, rfl⟩ := rc_anyP hp
  obtain ⟨A2, c2, rfl⟩ := rc_anyP hm
  have qs := store_float (P := Tryz.prog)
  clear hp hm cp cm hG
  go_enter Tryz.func5, Tryz.ntmps5
  go_wp2_with fail
  refine (HWK.out).mono ?_
  rintro e w1 ⟨rfl, b1⟩
  go_wp2_with fail
  refine (HL1.out _ b1).mono ?_
  rintro e w2 ⟨lb, rfl, h2, b2⟩
  have B2 := b1.trans (b2.mono b1.size)
  clear b1 b2 h2
  cases lb with
  | true =>
    go_wp2_with fail
    go_ret
    exact ⟨rfl, B2⟩
  | false =>
    go_wp2_with fail
    refine (HL2.out _ B2).mono ?_
    rintro e w3 ⟨lb, rfl, h3, b3⟩
    have B3 := B2.trans (b3.mono B2.size)
    clear B2 b3 h3
    cases lb with
    | true =>
      go_wp2_with fail
      go_ret
      exact ⟨rfl, B3⟩
    | false =>
      go_wp2_with fail
      refine (HV.out _ B3).mono ?_
      rintro e w4 ⟨rfl, b4⟩
      have B4 := B3.trans (b4.mono B3.size)
      clear B3 b4
      cases hv : validB ps with
      | false =>
        go_wp2_with fail
        go_ret
        exact ⟨rfl, B4⟩
      | true =>
        by_cases h40 : 40 < ms.length
        · have h40' : (40 : Int) < (ms.length : Int) := by omega
          clear h40
          go_wp2_with fail
          go_ret
          exact ⟨rfl, B4⟩
        · have h40' : (ms.length : Int) ≤ 40 := by omega
          have H40 := Lib.hid h40
          clear h40
          have HINV : Hid (SetsInv w w4 ps (.slice A ps.length c)) := Lib.hid ⟨rc_below HP.out B4, hv, B4⟩
          go_wp2_with fail
          go_loopw [0, 38] (fun v i wr => ∃ (k : Nat) (ls : List Prp) (A : Option Addr) (c : Nat), k ≤ ms.length ∧ i = .int .i64 k ∧ v = .slice A ls.length c ∧ Hid (SetsInv w wr ls (.slice A ls.length c))) (fun _ i _ => ms.length - (intOf i).toNat)
          case atStart => exact ⟨0, ps, A, c, Nat.zero_le _, rfl, rfl, HINV⟩
          case round =>
            clear HINV hv B4
            obtain ⟨k, ls, A, c, hk, rfl, rfl, HI⟩ := hrel
            by_cases hlt : k < ms.length
            · obtain ⟨p, hp⟩ : ∃ p, ms[k]? = some p := ⟨_, List.getElem?_eq_getElem hlt⟩
              obtain ⟨A9, c9, he9, -, hc9⟩ := props_at HM.out
              injection he9 with e9 _ e9c
              subst e9 e9c
              obtain ⟨a, rfl, q0, q1, q2, q3, q4⟩ := hc9 k p hp
              have hbw := HI.out.bel
              have p0 := cell_below hbw (World.block_lt_of_cell? w _ q0) q0
              have p1 := cell_below hbw (World.block_lt_of_cell? w _ q1) q1
              have p2 := cell_below hbw (World.block_lt_of_cell? w _ q2) q2
              have p3 := cell_below hbw (World.block_lt_of_cell? w _ q3) q3
              have p4 := cell_below hbw (World.block_lt_of_cell? w _ q4) q4
              have HPC := Lib.hid (HCM.out p (List.mem_of_getElem? hp))
              have HWK1 := Lib.hid (wk1 k 40 (by have := H40.out; omega) (by omega))
              have HLT := Lib.hid hlt
              obtain ⟨W1, hW1⟩ : ∃ W1, W1 = wr.alloc (.cells #[.string p.nm, .int .i64 p.k, .int .i64 p.n, .string p.t, .float .f64 p.r] 32) := ⟨_, rfl⟩
              have BX1 := Lib.hid (boxP_new wr p)
              have BW1 := Lib.hid (bel_alloc wr (.cells #[.string p.nm, .int .i64 p.k, .int .i64 p.n, .string p.t, .float .f64 p.r] 32))
              rw [← hW1] at BX1 BW1
              have HW1 := Lib.hid hW1
              have R1 : Hid (RPr W1 (.slice A ls.length c) ls) := Lib.hid (rc_below HI.out.rd BW1.out)
              obtain ⟨r0, hr0⟩ : ∃ r, getP ls p.nm = r := ⟨_, rfl⟩
              obtain ⟨gv, hgv⟩ : ∃ gv, gv = r0.getD noV := ⟨_, rfl⟩
              obtain ⟨hd, hhd⟩ : ∃ hd, hd = r0.isSome := ⟨_, rfl⟩
              have HGET := Lib.hid (get_lit p.nm R1.out hr0 hgv hhd)
              have HR0 := Lib.hid hr0
              have HHD := Lib.hid hhd
              clear hp hc9 q0 q1 q2 q3 q4 hbw hlt hk hW1 hr0 hgv hhd
              go_upto_region 8 with fail
              rw [← HW1.out]
              obtain ⟨y0, y1, y2, y3, y4, -⟩ := BX1.out
              go_wp2_with fail
              refine (HGET.out).mono ?_
              rintro e w2 ⟨rfl, b2⟩
              have BX2 := Lib.hid (BX1.out.below b2)
              have B2 := Lib.hid (BW1.out.trans (b2.mono BW1.out.size))
              have R2 : Hid (RPr w2 (.slice A ls.length c) ls) := Lib.hid (rc_below R1.out b2)
              clear y0 y1 y2 y3 y4 b2 p0 p1 p2 p3 p4
              obtain ⟨W3, hW3⟩ : ∃ W3, W3 = w2.alloc (.cells #[.int .i64 gv.k, .int .i64 gv.n, .string gv.t, .float .f64 gv.r] 24) := ⟨_, rfl⟩
              have b3 := bel_alloc w2 (.cells #[.int .i64 gv.k, .int .i64 gv.n, .string gv.t, .float .f64 gv.r] 24)
              rw [← hW3] at b3
              have BX3 := Lib.hid (BX2.out.below b3)
              have B3 := Lib.hid (B2.out.trans (b3.mono B2.out.size))
              have R3 : Hid (RPr W3 (.slice A ls.length c) ls) := Lib.hid (rc_below R2.out b3)
              have HW3 := Lib.hid hW3
              clear hW3 b3
              go_upto_region 9 with fail
              rw [← HW3.out]
              obtain ⟨y0, y1, y2, y3, y4, -⟩ := BX3.out
              go_wp2_with fail
              refine (set_c p R3.out (valid_names HI.out.ok) HPC.out.1).mono ?_
              rintro e w4 ⟨v4, rfl, o4, b4⟩
              have BX4 := Lib.hid (BX3.out.below b4)
              have B4 := Lib.hid (B3.out.trans (b4.mono B3.out.size))
              have R4 : Hid (RPr w4 (.slice A ls.length c) ls) := Lib.hid (rc_below R3.out b4)
              clear y0 y1 y2 y3 y4 b4
              have hsc := setE_cases (p := p) HI.out.ok
              rcases hsc with ⟨he, ho⟩ | ⟨he, ho, hno, h16⟩ | ⟨he, ho, hng⟩
              · rw [ho] at o4
                have hsv := set_valid he
                obtain ⟨xs, hxs⟩ : ∃ xs, xs = setL ls p := ⟨_, rfl⟩
                rw [← hxs] at o4 hsv
                obtain ⟨A4, c4, rfl⟩ : ∃ A4 c4, v4 = .slice A4 xs.length c4 := rc_anyP (own_rc o4)
                have X4 : Hid (RPr w4 (.slice A4 xs.length c4) xs) := Lib.hid (own_rc o4)
                have HXS := Lib.hid hxs
                have HXV := Lib.hid hsv.2
                have HSO := Lib.hid (validB_iff.1 hsv.1).1.2
                rw [he]
                clear he ho o4 hsv hxs
                have HGET2 := Lib.hid (get_lit p.nm X4.out (r := some p.val) (by rw [HXS.out]; exact getP_set) (gv := p.val) rfl (hd := true) rfl)
                obtain ⟨y0, y1, y2, y3, y4, -⟩ := BX4.out
                go_wp2_with fail
                refine (HGET2.out).mono ?_
                rintro e w5 ⟨rfl, b5⟩
                have BX5 := Lib.hid (BX4.out.below b5)
                have B5 := Lib.hid (B4.out.trans (b5.mono B4.out.size))
                have R5 : Hid (RPr w5 (.slice A ls.length c) ls) := Lib.hid (rc_below R4.out b5)
                have X5 : Hid (RPr w5 (.slice A4 xs.length c4) xs) := Lib.hid (rc_below X4.out b5)
                clear y0 y1 y2 y3 y4 b5
                obtain ⟨W6, hW6⟩ : ∃ W6, W6 = w5.alloc (.cells #[.int .i64 p.k, .int .i64 p.n, .string p.t, .float .f64 p.r] 24) := ⟨_, rfl⟩
                have b6 := bel_alloc w5 (.cells #[.int .i64 p.k, .int .i64 p.n, .string p.t, .float .f64 p.r] 24)
                have BV6 := Lib.hid (boxV_new w5 p.val)
                rw [show (.cells #[.int .i64 p.k, .int .i64 p.n, .string p.t, .float .f64 p.r] 24 : Obj) = .cells #[.int .i64 p.val.k, .int .i64 p.val.n, .string p.val.t, .float .f64 p.val.r] 24 from rfl] at hW6 b6
                rw [← hW6] at b6 BV6
                have BX6 := Lib.hid (BX5.out.below b6)
                have B6 := Lib.hid (B5.out.trans (b6.mono B5.out.size))
                have R6 : Hid (RPr W6 (.slice A ls.length c) ls) := Lib.hid (rc_below R5.out b6)
                have X6 : Hid (RPr W6 (.slice A4 xs.length c4) xs) := Lib.hid (rc_below X5.out b6)
                have HW6 := Lib.hid hW6
                clear hW6 b6
                go_upto_region 14 with fail
                rw [← HW6.out]
                obtain ⟨y0, y1, y2, y3, y4, -⟩ := BX6.out
                obtain ⟨z0, z1, z2, z3, -⟩ := BV6.out
                have HSM := Lib.hid (fun w => valSame_c (w := w) p.k p.n p.t p.r p.k p.n p.t p.r)
                rw [valSame_self p] at HSM
                have z0' : W6.cell? ⟨w5.heap.size, 0, none⟩ = some (.int .i64 p.k) := z0
                have z1' : W6.cell? ⟨w5.heap.size, 1, none⟩ = some (.int .i64 p.n) := z1
                have z2' : W6.cell? ⟨w5.heap.size, 2, none⟩ = some (.string p.t) := z2
                have z3' : W6.cell? ⟨w5.heap.size, 3, none⟩ = some (.float .f64 p.r) := z3
                clear z0 z1 z2 z3
                go_wp2_with fail
                refine (HSM.out _).mono ?_
                rintro e w7 ⟨rfl, b7⟩
                have BX7 := Lib.hid (BX6.out.below b7)
                have B7 := Lib.hid (B6.out.trans (b7.mono B6.out.size))
                have R7 : Hid (RPr w7 (.slice A ls.length c) ls) := Lib.hid (rc_below R6.out b7)
                have X7 : Hid (RPr w7 (.slice A4 xs.length c4) xs) := Lib.hid (rc_below X6.out b7)
                clear y0 y1 y2 y3 y4 z0' z1' z2' z3' b7
                go_wp2_with fail
                refine (valid_c X7.out (valid_names HXV.out)).mono ?_
                rw [HXV.out]
                rintro e w8 ⟨rfl, b8⟩
                have BX8 := Lib.hid (BX7.out.below b8)
                have B8 := Lib.hid (B7.out.trans (b8.mono B7.out.size))
                have R8 : Hid (RPr w8 (.slice A ls.length c) ls) := Lib.hid (rc_below R7.out b8)
                have X8 : Hid (RPr w8 (.slice A4 xs.length c4) xs) := Lib.hid (rc_below X7.out b8)
                have h63 : ls.length ≤ 16 := (validB_iff.1 HI.out.ok).2
                have H63 := Lib.hid h63
                clear b8 h63
                go_wp2_with fail
                go_loopw [109] (fun i wq => ∃ j : Nat, j ≤ ls.length ∧ i = .int .i64 j ∧ Hid (Below w8.heap.size w8 wq)) (fun i _ => ls.length - (intOf i).toNat)
                case atStart => exact ⟨0, Nat.zero_le _, rfl, Lib.hid (Below.refl _ _)⟩
                case round =>
                  obtain ⟨j, hj, rfl, BQ⟩ := hrel
                  by_cases hjl : j < ls.length
                  · obtain ⟨q, hq⟩ : ∃ q, ls[j]? = some q := ⟨_, List.getElem?_eq_getElem hjl⟩
                    obtain ⟨A9, c9, he9, -, hc9⟩ := props_at (rc_below R8.out BQ.out)
                    injection he9 with e9 _ e9c
                    subst e9 e9c
                    obtain ⟨aq, rfl, q0, q1, q2, q3, q4⟩ := hc9 j q hq
                    have HQ := Lib.hid hq
                    have HJL := Lib.hid hjl
                    have HWJ := Lib.hid (wk1 j 16 (by have := H63.out; omega) (by omega))
                    obtain ⟨V1, hV1⟩ : ∃ V1, V1 = wr.alloc (.cells #[.string q.nm, .int .i64 q.k, .int .i64 q.n, .string q.t, .float .f64 q.r] 32) := ⟨_, rfl⟩
                    have BQ1 := Lib.hid (boxP_new wr q)
                    have c1 := bel_alloc wr (.cells #[.string q.nm, .int .i64 q.k, .int .i64 q.n, .string q.t, .float .f64 q.r] 32)
                    rw [← hV1] at BQ1 c1
                    have HV1 := Lib.hid hV1
                    have C1 := Lib.hid (BQ.out.trans (c1.mono BQ.out.size))
                    obtain ⟨r2, hr2⟩ : ∃ r, getP xs q.nm = r := ⟨_, rfl⟩
                    obtain ⟨gv2, hgv2⟩ : ∃ gv, gv = r2.getD noV := ⟨_, rfl⟩
                    obtain ⟨hd2, hhd2⟩ : ∃ hd, hd = r2.isSome := ⟨_, rfl⟩
                    have HGET3 := Lib.hid (get_lit (w := V1) q.nm (rc_below X8.out C1.out) hr2 hgv2 hhd2)
                    have HR2 := Lib.hid hr2
                    have HGV2 := Lib.hid hgv2
                    have HHD2 := Lib.hid hhd2
                    clear hq hc9 hjl hj hV1 c1 hr2 hgv2 hhd2
                    go_upto_region 19 with fail
                    rw [← HV1.out]
                    obtain ⟨y0, y1, y2, y3, y4, -⟩ := BQ1.out
                    go_wp2_with fail
                    refine (HGET3.out).mono ?_
                    rintro e v2 ⟨rfl, c2⟩
                    have BQ2 := Lib.hid (BQ1.out.below c2)
                    have C2 := Lib.hid (C1.out.trans (c2.mono C1.out.size))
                    clear y0 y1 y2 y3 y4 c2 q0 q1 q2 q3 q4
                    obtain ⟨V3, hV3⟩ : ∃ V3, V3 = v2.alloc (.cells #[.int .i64 gv2.k, .int .i64 gv2.n, .string gv2.t, .float .f64 gv2.r] 24) := ⟨_, rfl⟩
                    have c3 := bel_alloc v2 (.cells #[.int .i64 gv2.k, .int .i64 gv2.n, .string gv2.t, .float .f64 gv2.r] 24)
                    have BV3 := Lib.hid (boxV_new v2 gv2)
                    rw [← hV3] at c3 BV3
                    have BQ3 := Lib.hid (BQ2.out.below c3)
                    have C3 := Lib.hid (C2.out.trans (c3.mono C2.out.size))
                    have BP3 := Lib.hid (BX8.out.below C3.out)
                    have HV3 := Lib.hid hV3
                    clear hV3 c3
                    go_upto_region 20 with fail
                    rw [← HV3.out]
                    obtain ⟨y0, y1, y2, y3, y4, -⟩ := BQ3.out
                    obtain ⟨x0, x1, x2, x3, x4, -⟩ := BP3.out
                    obtain ⟨z0, z1, z2, z3, -⟩ := BV3.out
                    by_cases hqn : q.nm = p.nm
                    · rw [hqn] at y0
                      clear hqn
                      go_wp2_with fail
                      go_roundw
                      case rel => exact ⟨j + 1, HJL.out, by first | rfl | (rw [HWJ.out]; rfl), C3⟩
                      case measure => first | exact round_less1 HJL.out | (rw [HWJ.out]; exact round_less1 HJL.out)
                    · have hrq : r2 = some q.val := by rw [← HR2.out, HXS.out, getP_other hqn, getP_at HSO.out HQ.out]
                      have hg2 : gv2 = q.val := by rw [HGV2.out, hrq]; rfl
                      have hd2' : hd2 = true := by rw [HHD2.out, hrq]; rfl
                      have hqb := str_ne hqn
                      have z0' : V3.cell? ⟨v2.heap.size, 0, none⟩ = some (.int .i64 q.k) := by rw [z0, hg2]; rfl
                      have z1' : V3.cell? ⟨v2.heap.size, 1, none⟩ = some (.int .i64 q.n) := by rw [z1, hg2]; rfl
                      have z2' : V3.cell? ⟨v2.heap.size, 2, none⟩ = some (.string q.t) := by rw [z2, hg2]; rfl
                      have z3' : V3.cell? ⟨v2.heap.size, 3, none⟩ = some (.float .f64 q.r) := by rw [z3, hg2]; rfl
                      have HSQ := Lib.hid (fun w => valSame_c (w := w) q.k q.n q.t q.r q.k q.n q.t q.r)
                      rw [valSame_self q] at HSQ
                      subst hd2'
                      clear hqn hrq hg2 z0 z1 z2 z3 HGV2
                      go_wp2_with fail
                      refine (HSQ.out _).mono ?_
                      rintro e v4 ⟨rfl, c4'⟩
                      have C4 := Lib.hid (C3.out.trans (c4'.mono C3.out.size))
                      clear y0 y1 y2 y3 y4 x0 x1 x2 x3 x4 z0' z1' z2' z3' c4'
                      go_wp2_with fail
                      go_roundw
                      case rel => exact ⟨j + 1, HJL.out, by first | rfl | (rw [HWJ.out]; rfl), C4⟩
                      case measure => first | exact round_less1 HJL.out | (rw [HWJ.out]; exact round_less1 HJL.out)
                  · have hj2 : j = ls.length := by omega
                    subst hj2
                    have hlen := setL_len (p := p) HSO.out
                    rw [← HXS.out, HR0.out, ← HHD.out] at hlen
                    have hwl : IntKind.i64.wrap ((ls.length : Int) + 1) = (ls.length : Int) + 1 := by have := H63.out; rw [IntKind.wrap_i64]; omega
                    have hN : SetsInv w wr xs (.slice A4 xs.length c4) := ⟨rc_below X8.out BQ.out, HXV.out, (HI.out.bel.trans (B8.out.mono HI.out.bel.size)).trans (BQ.out.mono (HI.out.bel.trans (B8.out.mono HI.out.bel.size)).size)⟩
                    have HN := Lib.hid hN
                    clear hjl hN hj
                    cases hd with
                    | true =>
                      have hl2 : ((xs.length : Int) == (ls.length : Int)) = true := by rw [show xs.length = ls.length from hlen]; exact beq_self_eq_true _
                      have hl3 : (xs.length : Int) = (ls.length : Int) := by rw [show xs.length = ls.length from hlen]
                      clear hlen
                      go_wp2_with fail
                      go_roundw
                      case rel => exact ⟨k + 1, xs, A4, c4, HLT.out, by first | rfl | (rw [HWK1.out]; rfl), rfl, HN⟩
                      case measure => first | exact round_less1 HLT.out | (rw [HWK1.out]; exact round_less1 HLT.out)
                    | false =>
                      have hl3 : (xs.length : Int) = (ls.length : Int) + 1 := by rw [show xs.length = ls.length + 1 from hlen]; rfl
                      clear hlen
                      go_wp2_with fail
                      go_roundw
                      case rel => exact ⟨k + 1, xs, A4, c4, HLT.out, by first | rfl | (rw [HWK1.out]; rfl), rfl, HN⟩
                      case measure => first | exact round_less1 HLT.out | (rw [HWK1.out]; exact round_less1 HLT.out)
              · have hd0 : hd = false := by rw [HHD.out, ← HR0.out, hno]
                have h16' : (16 : Int) ≤ (ls.length : Int) := by omega
                rw [ho] at o4
                obtain ⟨A4, c4, rfl⟩ : ∃ A4 c4, v4 = .slice A4 0 c4 := rc_anyP (own_rc o4)
                have hN : SetsInv w w4 ls (.slice A ls.length c) := ⟨R4.out, HI.out.ok, HI.out.bel.trans (B4.out.mono HI.out.bel.size)⟩
                have HN := Lib.hid hN
                rw [he]
                subst hd0
                clear he ho hno h16 o4 hN
                go_wp2_with fail
                go_roundw
                case rel => exact ⟨k + 1, ls, A, c, HLT.out, by first | rfl | (rw [HWK1.out]; rfl), rfl, HN⟩
                case measure => first | exact round_less1 HLT.out | (rw [HWK1.out]; exact round_less1 HLT.out)
              · rw [ho] at o4
                obtain ⟨A4, c4, rfl⟩ : ∃ A4 c4, v4 = .slice A4 0 c4 := rc_anyP (own_rc o4)
                have HNG := Lib.hid hng
                rw [he]
                clear he ho hng o4
                obtain ⟨y0, y1, y2, y3, y4, -⟩ := BX4.out
                go_wp2_with fail
                refine (name_c p.nm HPC.out.1).mono ?_
                rintro e w5 ⟨rfl, b5⟩
                have BX5 := Lib.hid (BX4.out.below b5)
                have B5 := Lib.hid (B4.out.trans (b5.mono B4.out.size))
                have R5 : Hid (RPr w5 (.slice A ls.length c) ls) := Lib.hid (rc_below R4.out b5)
                clear y0 y1 y2 y3 y4 b5
                cases hn : nameB p.nm with
                | false =>
                  have hN : SetsInv w w5 ls (.slice A ls.length c) := ⟨R5.out, HI.out.ok, HI.out.bel.trans (B5.out.mono HI.out.bel.size)⟩
                  have HN := Lib.hid hN
                  clear hn hN
                  go_wp2_with fail
                  go_roundw
                  case rel => exact ⟨k + 1, ls, A, c, HLT.out, by first | rfl | (rw [HWK1.out]; rfl), rfl, HN⟩
                  case measure => first | exact round_less1 HLT.out | (rw [HWK1.out]; exact round_less1 HLT.out)
                | true =>
                  have hg := HNG.out hn
                  have HGC := Lib.hid (fun w => good_c (w := w) p.k p.n p.t p.r)
                  rw [show goodB p.k p.n p.t p.r = false from hg] at HGC
                  obtain ⟨y0, y1, y2, y3, y4, -⟩ := BX5.out
                  clear hn hg
                  go_wp2_with fail
                  refine (HGC.out _).mono ?_
                  rintro e w6 ⟨rfl, b6⟩
                  have hN : SetsInv w w6 ls (.slice A ls.length c) := ⟨rc_below R5.out b6, HI.out.ok, (HI.out.bel.trans (B5.out.mono HI.out.bel.size)).trans (b6.mono (HI.out.bel.trans (B5.out.mono HI.out.bel.size)).size)⟩
                  have HN := Lib.hid hN
                  clear y0 y1 y2 y3 y4 b6 hN
                  go_wp2_with fail
                  go_roundw
                  case rel => exact ⟨k + 1, ls, A, c, HLT.out, by first | rfl | (rw [HWK1.out]; rfl), rfl, HN⟩
                  case measure => first | exact round_less1 HLT.out | (rw [HWK1.out]; exact round_less1 HLT.out)
            · have hk2 : k = ms.length := by omega
              subst hk2
              have B9 := Lib.hid HI.out.bel
              clear hlt
              go_wp2_with fail
              go_ret
              exact ⟨rfl, B9.out⟩
end Go.Proofs.YtcehkaombanhaaaGreatDoor
