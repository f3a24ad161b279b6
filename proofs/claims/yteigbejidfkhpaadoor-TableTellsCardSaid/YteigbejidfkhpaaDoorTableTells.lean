/- TableTells: two methods have one payload just if they are the same; it begins with its class and number: the walk. -/
import Derived.Test.YteigbejidfkhpaaDoorTbU
import Derived.Test.YteigbejidfkhpaaDoorTbT
import Derived.Lib.QuietBelow
namespace Go.Proofs.YteigbejidfkhpaaDoor
open Go Go.RowKit Go.Sort
open Go.ChangeShapes Go.WideShapes Go.Deep
set_option linter.unusedSimpArgs false
set_option linter.unusedVariables false

theorem rb_four {w : World} {v : Value} {a b c d : UInt8} {u : List UInt8} (h : RB w v (a :: b :: c :: d :: u)) : ∃ ad cp n, v = .slice (some ad) n cp ∧ 4 ≤ n ∧ n ≤ cp ∧ cp ≤ 9223372036854775807 ∧ w.cell? ad = some (.int .u8 a.toNat) ∧ w.cell? ⟨ad.block, ad.off + 1, none⟩ = some (.int .u8 b.toNat) ∧ w.cell? ⟨ad.block, ad.off + 2, none⟩ = some (.int .u8 c.toNat) ∧ w.cell? ⟨ad.block, ad.off + 3, none⟩ = some (.int .u8 d.toNat) := by
  obtain ⟨A, cp, rfl, h1, h2, h3, h4, h5⟩ := h
  obtain ⟨ad, rfl, c0⟩ := h5 0 _ rfl
  obtain ⟨a1, e1, c1⟩ := h5 1 _ rfl
  obtain ⟨a2, e2, c2⟩ := h5 2 _ rfl
  obtain ⟨a3, e3, c3⟩ := h5 3 _ rfl
  injection e1 with e1; injection e2 with e2; injection e3 with e3
  subst e1 e2 e3
  refine ⟨ad, cp, _, rfl, by simp, by simpa using h1, h2, by rwa [show ad.add 0 = ad by unfold Addr.add; simp] at c0, by simpa [Addr.add] using c1, by simpa [Addr.add] using c2, by simpa [Addr.add] using c3⟩

theorem below_dd {B : Nat} {a w : World} (h : Below B a w) (n m : Nat) : Below B a ((w.drewN n).drewN m) := h.trans ⟨rfl, rfl, rfl, Nat.le_refl _, fun _ _ => rfl⟩
theorem below_gr {B : Nat} {a w : World} (h : Go.RowKit.Below B a w) (hB : B ≤ w.heap.size) (d : Nat) (os : Array Obj) : Go.RowKit.Below B a (grow (redrawn w d) os) := h.trans ((below_regrown w d os).mono hB)
/-- What a walk knows of a method that came in. -/
structure MthIn (w : World) (m : Mth) (vn vt vp : Value) : Prop where
  rn : RI w vn m.ns
  rt : RS w vt m.ts
  rp : RPr w vp m.ps
  fit : m.fit
  nl : m.ns.length ≤ 140737488351232
  tl : m.ts.length ≤ 140737488351232
  tz : ∀ t ∈ m.ts, t.size ≤ 140737488351232
  pz : ∀ p ∈ m.ps, p.nm.size ≤ 140737488351232 ∧ p.t.size ≤ 140737488351232

theorem mthIn_below {w w1 : World} {m : Mth} {vn vt vp : Value} (h : MthIn w m vn vt vp) (b : Below w.heap.size w w1) : MthIn w1 m vn vt vp :=
  ⟨rc_below h.rn b, rc_below h.rt b, rc_below h.rp b, h.fit, h.nl, h.tl, h.tz, h.pz⟩
theorem heavyIn {w : World} {m : Mth} {vn vt vp : Value} (h : MthIn w m vn vt vp) : Calls Tryd.prog 10 #[.agg #[.int .i64 m.c, .int .i64 m.i, vn, vt, vp]] w (HvPost w m.ns m.ts m.ps) :=
  heavy_c h.rn h.rt h.rp h.nl h.tz h.pz
theorem encIn {w : World} {m : Mth} {vn vt vp : Value} (h : MthIn w m vn vt vp) : Calls Tryd.prog 11 #[.agg #[.int .i64 m.c, .int .i64 m.i, vn, vt, vp]] w (EncM w m.bytes) :=
  tEncode_c m.c m.i m.ns m.ts m.ps h.rn h.rt h.rp h.fit.1 h.nl h.tl (fun p hp => (h.pz p hp).1) (fun p hp => (h.fit.2 p hp).1)
theorem sameIn {w : World} {m m' : Mth} {vn vt vp vn' vt' vp' : Value} (h : MthIn w m vn vt vp) (h' : MthIn w m' vn' vt' vp') : Calls Tryd.prog 12 #[.agg #[.int .i64 m.c, .int .i64 m.i, vn, vt, vp], .agg #[.int .i64 m'.c, .int .i64 m'.i, vn', vt', vp']] w (SamePost w m m') :=
  methSame_c m m' h.rn h.rt h.rp h'.rn h'.rt h'.rp h.nl h.tl

set_option maxRecDepth 100000 in
set_option maxHeartbeats 4000000 in
theorem tableTells_c {w : World} (m m' : Mth) {vn vt vp vn' vt' vp' : Value} (hm : MthIn w m vn vt vp) (hm' : MthIn w m' vn' vt' vp') :
    Calls Tryd.prog 3 #[.agg #[.int .i64 m.c, .int .i64 m.i, vn, vt, vp], .agg #[.int .i64 m'.c, .int .i64 m'.i, vn', vt', vp']] w fun e w' => e = .returned (.bool true) ∧ Below w.heap.size w w' := by
  have b1 := (Below.refl w.heap.size w).alloc (Nat.le_refl _) (.cells #[.int .i64 m.c, .int .i64 m.i, vn, vt, vp] 26)
  have bW := Lib.hid (b1.alloc b1.size (.cells #[.int .i64 m'.c, .int .i64 m'.i, vn', vt', vp'] 26))
  have hM1 := mb_new w m.c m.i vn vt vp
  obtain ⟨w1, hw1⟩ : ∃ w1, w1 = w.alloc (.cells #[.int .i64 m.c, .int .i64 m.i, vn, vt, vp] 26) := ⟨_, rfl⟩
  have hM2 := mb_new w1 m'.c m'.i vn' vt' vp'
  have hs1 : w1.heap.size = w.heap.size + 1 := by rw [hw1]; exact Array.size_push _
  rw [← hw1] at hM1
  have hM1 := mb_keeps hM1 (keepsO_alloc w1 (.cells #[.int .i64 m'.c, .int .i64 m'.i, vn', vt', vp'] 26))
  rw [hs1] at hM2
  rw [hw1] at hM1 hM2
  have HM1 := Lib.hid hM1
  have HM2 := Lib.hid hM2
  have HI := Lib.hid hm
  have HI' := Lib.hid hm'
  clear hs1 hM1 hM2 hw1 b1 hm hm'
  obtain ⟨c, i, ns, ts, ps⟩ := m
  obtain ⟨c', i', ns', ts', ps'⟩ := m'
  dsimp only at HM1 HM2 bW ⊢
  go_enter Tryd.func3, Tryd.ntmps3
  go_wp2_with fail
  refine wakes_c.mono ?_
  rintro e w2 ⟨rfl, b2⟩
  have B2 := Lib.hid (bW.out.trans (b2.mono bW.out.size))
  have M1 := Lib.hid (mb_keeps HM1.out (keepsO_below b2))
  have M2 := Lib.hid (mb_keeps HM2.out (keepsO_below b2))
  have I2 := Lib.hid (mthIn_below HI.out B2.out)
  have I2' := Lib.hid (mthIn_below HI'.out B2.out)
  obtain ⟨q0, q1, q2, q3, q4⟩ := mb_facts M1.out
  obtain ⟨p0, p1, p2, p3, p4⟩ := mb_facts M2.out
  clear b2 HM1 HM2
  go_wp2_with fail
  refine (heavyIn I2.out).mono ?_
  rintro e w3 ⟨h3, rfl, hh3, b3⟩
  cases h3 with
  | true =>
    go_wp2_with fail
    go_ret
    exact ⟨rfl, B2.out.trans (b3.mono B2.out.size)⟩
  | false =>
    have B3 := Lib.hid (B2.out.trans (b3.mono B2.out.size))
    have M13 := Lib.hid (mb_keeps M1.out (keepsO_below b3))
    have M23 := Lib.hid (mb_keeps M2.out (keepsO_below b3))
    have I3 := Lib.hid (mthIn_below I2.out b3)
    have I3' := Lib.hid (mthIn_below I2'.out b3)
    clear b3 hh3 q0 q1 q2 q3 q4 p0 p1 p2 p3 p4
    obtain ⟨q0, q1, q2, q3, q4⟩ := mb_facts M13.out
    obtain ⟨p0, p1, p2, p3, p4⟩ := mb_facts M23.out
    go_wp2_with fail
    refine (heavyIn I3'.out).mono ?_
    rintro e w4 ⟨h4, rfl, hh4, b4⟩
    cases h4 with
    | true =>
      go_wp2_with fail
      go_ret
      exact ⟨rfl, B3.out.trans (b4.mono B3.out.size)⟩
    | false =>
      have B4 := Lib.hid (B3.out.trans (b4.mono B3.out.size))
      have M14 := Lib.hid (mb_keeps M13.out (keepsO_below b4))
      have M24 := Lib.hid (mb_keeps M23.out (keepsO_below b4))
      have I4 := Lib.hid (mthIn_below I3.out b4)
      have I4' := Lib.hid (mthIn_below I3'.out b4)
      clear b4 hh4 q0 q1 q2 q3 q4 p0 p1 p2 p3 p4 B2 B3 M1 M2 M13 M23 I2 I2' I3 I3'
      obtain ⟨q0, q1, q2, q3, q4⟩ := mb_facts M14.out
      obtain ⟨p0, p1, p2, p3, p4⟩ := mb_facts M24.out
      go_wp2_with fail
      refine (encIn I4.out).mono ?_
      intro e w5 he5
      obtain ⟨b5, he5⟩ := he5
      have B5 := Lib.hid (B4.out.trans (b5.mono B4.out.size))
      have M15 := Lib.hid (mb_keeps M14.out (keepsO_below b5))
      have M25 := Lib.hid (mb_keeps M24.out (keepsO_below b5))
      have I5 := Lib.hid (mthIn_below I4.out b5)
      have I5' := Lib.hid (mthIn_below I4'.out b5)
      clear b5 q0 q1 q2 q3 q4 p0 p1 p2 p3 p4 B4 M14 M24 I4 I4'
      obtain ⟨q0, q1, q2, q3, q4⟩ := mb_facts M15.out
      obtain ⟨p0, p1, p2, p3, p4⟩ := mb_facts M25.out
      cases hb1 : Mth.bytes ⟨c, i, ns, ts, ps⟩ with
      | none =>
        rw [hb1] at he5
        dsimp only at he5
        subst he5
        clear hb1
        go_wp2_with fail
        refine (encIn I5'.out).mono ?_
        intro e w6 he6
        obtain ⟨b6, he6⟩ := he6
        have B6 := Lib.hid (B5.out.trans (b6.mono B5.out.size))
        cases hb2 : Mth.bytes ⟨c', i', ns', ts', ps'⟩ with
        | none =>
          rw [hb2] at he6
          dsimp only at he6
          subst he6
          clear hb2 b6
          go_wp2_with fail
          go_quiet (fail)
          go_wp2_with fail
          go_quiet (fail)
          go_wp2_with fail
          go_ret
          exact ⟨rfl, below_dd B6.out _ _⟩
        | some y =>
          rw [hb2] at he6
          dsimp only at he6
          obtain ⟨v6, rfl, _⟩ := he6
          clear hb2 b6
          go_wp2_with fail
          go_quiet (fail)
          go_wp2_with fail
          go_quiet (fail)
          go_wp2_with fail
          go_ret
          exact ⟨rfl, below_dd B6.out _ _⟩
      | some x =>
        rw [hb1] at he5
        dsimp only at he5
        obtain ⟨v5, rfl, o5⟩ := he5
        obtain ⟨xa, xb, xc, xd, xu, rfl, hx1, hx2⟩ := bytes_head hb1
        have HX1 := Lib.hid hx1
        have HX2 := Lib.hid hx2
        have HB1 := Lib.hid hb1
        have O5 := Lib.hid o5
        clear hb1 hx1 hx2 o5
        go_wp2_with fail
        refine (encIn I5'.out).mono ?_
        intro e w6 he6
        obtain ⟨b6, he6⟩ := he6
        have B6 := Lib.hid (B5.out.trans (b6.mono B5.out.size))
        have M16 := Lib.hid (mb_keeps M15.out (keepsO_below b6))
        have M26 := Lib.hid (mb_keeps M25.out (keepsO_below b6))
        have I6 := Lib.hid (mthIn_below I5.out b6)
        have I6' := Lib.hid (mthIn_below I5'.out b6)
        have R6 := Lib.hid (rb_below (ob_rb O5.out) b6)
        clear b6 q0 q1 q2 q3 q4 p0 p1 p2 p3 p4 B5 M15 M25 I5 I5' O5
        obtain ⟨q0, q1, q2, q3, q4⟩ := mb_facts M16.out
        obtain ⟨p0, p1, p2, p3, p4⟩ := mb_facts M26.out
        obtain ⟨ad, cp, n, rfl, hn4, hcp, hcp2, r0, r1, r2, r3⟩ := rb_four R6.out
        have hxd : decide ((n : Int) < 4) = false := decide_eq_false (by omega)
        have n0 : (0 : Int) < n := by omega
        have n1 : (1 : Int) < n := by omega
        have n2 : (2 : Int) < n := by omega
        have n3 : (3 : Int) < n := by omega
        have n0' : 0 < n := by omega
        have hxl3 : (n : Int) ≤ 9223372036854775807 := by omega
        have t0 := UInt8.toNat_lt xa
        have t1 := UInt8.toNat_lt xb
        have t2 := UInt8.toNat_lt xc
        have t3 := UInt8.toNat_lt xd
        have f0 : IntKind.i64.wrap (xa.toNat : Int) = (xa.toNat : Int) := IntWalk.i64_in _ (by omega)
        have f1 : IntKind.i64.wrap (xb.toNat : Int) = (xb.toNat : Int) := IntWalk.i64_in _ (by omega)
        have f2 : IntKind.i64.wrap (xc.toNat : Int) = (xc.toNat : Int) := IntWalk.i64_in _ (by omega)
        have f3 : IntKind.i64.wrap (xd.toNat : Int) = (xd.toNat : Int) := IntWalk.i64_in _ (by omega)
        have e0 : IntKind.i64.wrap ((xa.toNat : Int) * 256) = (xa.toNat : Int) * 256 := IntWalk.i64_in _ (by omega)
        have e1 : IntKind.i64.wrap ((xa.toNat : Int) * 256 + (xb.toNat : Int)) = c := by rw [← HX1.out]; exact IntWalk.i64_in _ (by omega)
        have e2 : IntKind.i64.wrap ((xc.toNat : Int) * 256) = (xc.toNat : Int) * 256 := IntWalk.i64_in _ (by omega)
        have e3 : IntKind.i64.wrap ((xc.toNat : Int) * 256 + (xd.toNat : Int)) = i := by rw [← HX2.out]; exact IntWalk.i64_in _ (by omega)
        cases hb2 : Mth.bytes ⟨c', i', ns', ts', ps'⟩ with
        | none =>
          rw [hb2] at he6
          dsimp only at he6
          subst he6
          clear hb2
          go_wp2_with fail
          go_quiet (fail)
          go_wp2_with fail
          go_quiet (fail)
          go_wp2_with fail
          go_ret
          exact ⟨rfl, below_dd B6.out _ _⟩
        | some y =>
          rw [hb2] at he6
          dsimp only at he6
          obtain ⟨v6, rfl, o6⟩ := he6
          have O6 := Lib.hid o6
          have HB2 := Lib.hid hb2
          clear hb2 o6
          go_wp2_with fail
          go_quiet (fail)
          go_wp2_with fail
          have R1 := Lib.hid R6.out
          have R2 := Lib.hid (ob_rb O6.out)
          obtain ⟨W, hW⟩ : ∃ W, W = w6.drewN nq := ⟨_, rfl⟩
          have bWW : Go.RowKit.Below w6.heap.size w6 W := by rw [hW]; exact below_drewN _ _
          have hWs : W.heap.size = w6.heap.size := by rw [hW]; rfl
          have hcx : ∀ (d : Nat) (os : Array Obj), (convert 29 9 (.slice (some ad) n cp)).run Tryd.prog (grow (redrawn W d) os) = .ok (.string ⟨(xa :: xb :: xc :: xd :: xu).toArray⟩) (grow (redrawn W d) os) := fun d os => rb_string (rb_below (rb_below R1.out bWW) (below_regrown W d os))
          have hcy : ∀ (d : Nat) (os : Array Obj), (convert 29 9 v6).run Tryd.prog (grow (redrawn W d) os) = .ok (.string ⟨y.toArray⟩) (grow (redrawn W d) os) := fun d os => rb_string (rb_below (rb_below R2.out bWW) (below_regrown W d os))
          have z0 : ∀ d os, (grow (redrawn W d) os).cell? ⟨w.heap.size, 0, none⟩ = some (.int .i64 c) := fun d os => cell_regrown (by rw [hW]; exact q0) d os
          have z1 : ∀ d os, (grow (redrawn W d) os).cell? ⟨w.heap.size, 1, none⟩ = some (.int .i64 i) := fun d os => cell_regrown (by rw [hW]; exact q1) d os
          have z2 : ∀ d os, (grow (redrawn W d) os).cell? ⟨w.heap.size, 2, none⟩ = some vn := fun d os => cell_regrown (by rw [hW]; exact q2) d os
          have z3 : ∀ d os, (grow (redrawn W d) os).cell? ⟨w.heap.size, 3, none⟩ = some vt := fun d os => cell_regrown (by rw [hW]; exact q3) d os
          have z4 : ∀ d os, (grow (redrawn W d) os).cell? ⟨w.heap.size, 4, none⟩ = some vp := fun d os => cell_regrown (by rw [hW]; exact q4) d os
          have y0 : ∀ d os, (grow (redrawn W d) os).cell? ⟨w.heap.size + 1, 0, none⟩ = some (.int .i64 c') := fun d os => cell_regrown (by rw [hW]; exact p0) d os
          have y1 : ∀ d os, (grow (redrawn W d) os).cell? ⟨w.heap.size + 1, 1, none⟩ = some (.int .i64 i') := fun d os => cell_regrown (by rw [hW]; exact p1) d os
          have y2 : ∀ d os, (grow (redrawn W d) os).cell? ⟨w.heap.size + 1, 2, none⟩ = some vn' := fun d os => cell_regrown (by rw [hW]; exact p2) d os
          have y3 : ∀ d os, (grow (redrawn W d) os).cell? ⟨w.heap.size + 1, 3, none⟩ = some vt' := fun d os => cell_regrown (by rw [hW]; exact p3) d os
          have y4 : ∀ d os, (grow (redrawn W d) os).cell? ⟨w.heap.size + 1, 4, none⟩ = some vp' := fun d os => cell_regrown (by rw [hW]; exact p4) d os
          have J1 := Lib.hid (mthIn_below I6.out bWW)
          have J2 := Lib.hid (mthIn_below I6'.out bWW)
          have BWW := Lib.hid (B6.out.trans (bWW.mono B6.out.size))
          clear q0 q1 q2 q3 q4 p0 p1 p2 p3 p4 r0 r1 r2 r3 e0 e1 e2 e3 f0 f1 f2 f3 hxd bWW
          by_cases heq : (⟨c, i, ns, ts, ps⟩ : Mth) = ⟨c', i', ns', ts', ps'⟩
          · have hcS : ∀ (d : Nat) (os : Array Obj), Calls Tryd.prog 12 #[.agg #[.int .i64 c, .int .i64 i, vn, vt, vp], .agg #[.int .i64 c', .int .i64 i', vn', vt', vp']] (grow (redrawn W d) os) fun e w'' => e = .returned (.bool true) ∧ ∃ p : Regrown, w'' = grow (redrawn W p.d) p.os := fun d os => Calls.regrown_of ((sameIn (mthIn_below J1.out (below_regrown W d os)) (mthIn_below J2.out (below_regrown W d os))).mono fun e w' ⟨b, he, hb, hbel⟩ => ⟨by rw [he, hb.2 heq], hbel⟩)
            have hyx : y = xa :: xb :: xc :: xd :: xu := by have h1 := HB1.out; have h2 := HB2.out; rw [heq, h2] at h1; injection h1
            subst hyx
            rw [← hW]
            clear heq hW
            refine wp_region_quiet_below (by kernel_rfl) (by kernel_rfl) ?_
            repeat (go_big_quiet_step (first | exact hcS _ _))
            refine wpQuiet_nil ?_
            intro _ hw'
            obtain ⟨⟨dq, osq⟩, hw''⟩ := hw'
            subst hw''
            go_wp2
            go_ret
            exact ⟨rfl, below_gr BWW.out BWW.out.size _ _⟩
          · have hcS : ∀ (d : Nat) (os : Array Obj), Calls Tryd.prog 12 #[.agg #[.int .i64 c, .int .i64 i, vn, vt, vp], .agg #[.int .i64 c', .int .i64 i', vn', vt', vp']] (grow (redrawn W d) os) fun e w'' => e = .returned (.bool false) ∧ ∃ p : Regrown, w'' = grow (redrawn W p.d) p.os := fun d os => Calls.regrown_of ((sameIn (mthIn_below J1.out (below_regrown W d os)) (mthIn_below J2.out (below_regrown W d os))).mono fun e w' ⟨b, he, hb, hbel⟩ => ⟨by rw [he, show b = false by cases b; rfl; exact absurd (hb.1 rfl) heq], hbel⟩)
            have hyx : ¬ (xa :: xb :: xc :: xd :: xu) = y := fun e => heq (bytes_inj I6.out.fit I6'.out.fit HB1.out (by rw [e]; exact HB2.out))
            have hst : ((xa :: xb :: xc :: xd :: xu) == y) = false := beq_eq_false_iff_ne.2 hyx
            rw [← hW]
            clear heq hW hyx
            refine wp_region_quiet_below (by kernel_rfl) (by kernel_rfl) ?_
            repeat (go_big_quiet_step (first | exact hcS _ _))
            refine wpQuiet_nil ?_
            intro _ hw'
            obtain ⟨⟨dq, osq⟩, hw''⟩ := hw'
            subst hw''
            go_wp2
            go_ret
            exact ⟨rfl, below_gr BWW.out BWW.out.size _ _⟩
end Go.Proofs.YteigbejidfkhpaaDoor
