/- Texts of this claim, joined: QfA, QgS. -/
import Derived.Test.YtelhpdnclmpgoaaDoorQeX
import Derived.Deep.DeepCutAuto
import Derived.Test.YtelhpdnclmpgoaaDoorSaO
/- Layer 10: what is too long to be played. (Printed by gen/qfa.py.) -/
namespace Go.Proofs.YtelhpdnclmpgoaaDoor
open Go Go.RowKit Go.Sort
open Go.ChangeShapes Go.WideShapes Go.Deep
set_option linter.unusedSimpArgs false
set_option linter.unusedVariables false

set_option maxRecDepth 100000 in
set_option maxHeartbeats 4000000 in
theorem long_c {w : World} (q : Que) (r : QuR) (hq : QuIn w q r) (hi : r.is.length ≤ 1099511627776) (hh : r.hs.length ≤ 1099511627776) :
    Calls Tryd.prog 9 #[.agg #[.string q.name, .bool q.dur, .int .i64 q.depth, .int .i64 q.seq, .int .i64 q.tag, .slice r.ia r.is.length r.ic, .slice r.ha r.hs.length r.hc]] w fun e w' => ∃ b : Bool, e = .returned (.bool b) ∧ Below w.heap.size w w' := by
  obtain ⟨W, hW⟩ : ∃ W, W = (w.alloc (.cells #[.string q.name, .bool q.dur, .int .i64 q.depth, .int .i64 q.seq, .int .i64 q.tag, .slice r.ia r.is.length r.ic, .slice r.ha r.hs.length r.hc] 25)) := ⟨_, rfl⟩
  have b0 : Below w.heap.size w W := by rw [hW]; exact ((Below.refl _ _).alloc (Nat.le_refl _) _)
  have hsz : W.heap.size = w.heap.size + 1 := by rw [hW]; simp
  have r0 : W.heap[w.heap.size]? = some (.cells #[.string q.name, .bool q.dur, .int .i64 q.depth, .int .i64 q.seq, .int .i64 q.tag, .slice r.ia r.is.length r.ic, .slice r.ha r.hs.length r.hc] 25 (0, 0)) := by rw [hW]; exact alloc_at _ _ _ (by simp)
  have HR0 : Hid (∀ w1, Below W.heap.size W w1 → w1.heap[w.heap.size]? = some (.cells #[.string q.name, .bool q.dur, .int .i64 q.depth, .int .i64 q.seq, .int .i64 q.tag, .slice r.ia r.is.length r.ic, .slice r.ha r.hs.length r.hc] 25 (0, 0))) := Lib.hid (fun w1 b => (b.block (w.heap.size) (by omega)).trans r0)
  have HZ0 : Hid (∀ w1, Below W.heap.size W w1 → ∀ j u, (#[.string q.name, .bool q.dur, .int .i64 q.depth, .int .i64 q.seq, .int .i64 q.tag, .slice r.ia r.is.length r.ic, .slice r.ha r.hs.length r.hc] : Array Value)[j]? = some u → w1.cell? ⟨w.heap.size, j, none⟩ = some u) := Lib.hid (fun w1 b j u hj => by simp only [World.cell?, HR0.out w1 b]; exact hj)
  have HF0 : Hid (∀ w1, Below W.heap.size W w1 → ∀ j, w1.frozen? ⟨w.heap.size, j, none⟩ = false) := Lib.hid (fun w1 b j => frozen_of_row _ _ j _ _ (HR0.out w1 b))
  have HQI := Lib.hid (hq.items.below b0)
  have HQH := Lib.hid (hq.held.below b0)
  have HIL := Lib.hid hi
  have HHL := Lib.hid hh
  have HB0 := Lib.hid b0
  have HW := Lib.hid hW
  have z5 := HZ0.out W (Below.refl _ _) 5 _ rfl
  have z6 := HZ0.out W (Below.refl _ _) 6 _ rfl
  obtain ⟨ia, ic, is, ha, hc, hs⟩ := r
  dsimp only at *
  clear hW b0 hsz r0 hq hi hh
  go_enter Tryd.func9, Tryd.ntmps9
  go_upto_region 1 with fail
  rw [← HW.out]
  by_cases hbig : 200 < wrap64 ((is.length : Int) + (hs.length : Int))
  · have hbig2 : 200 < IntKind.i64.wrap ((is.length : Int) + (hs.length : Int)) := by rw [IntKind.wrap_i64]; unfold wrap64 at hbig; exact hbig
    go_wp2_with fail
    go_ret
    exact ⟨_, rfl, HB0.out⟩
  · have hbig2 : ¬ 200 < IntKind.i64.wrap ((is.length : Int) + (hs.length : Int)) := by rw [IntKind.wrap_i64]; unfold wrap64 at hbig; exact hbig
    go_wp2_with fail
    clear hbig hbig2
    have BB : Hid (Below W.heap.size W W) := Lib.hid (Below.refl _ _)
    go_loopw [3, 20] (fun t i wr => ∃ (k : Nat) (s : Int), k ≤ is.length ∧ i = .int .i64 k ∧ t = .int .i64 s ∧ Hid (Below W.heap.size W wr)) (fun _ i _ => is.length - (intOf i).toNat)
    case atStart => exact ⟨0, _, Nat.zero_le _, rfl, rfl, BB⟩
    case round =>
      clear BB
      obtain ⟨k, s, hk, rfl, rfl, HB⟩ := hrel
      by_cases hlt : k < is.length
      · obtain ⟨x, hx⟩ : ∃ x, is[k]? = some x := ⟨_, List.getElem?_eq_getElem hlt⟩
        obtain ⟨ok, a, rfl, q0, q1, q2, q3, q4, q5, q6⟩ := items_lit (HQI.out.below HB.out) k x hx
        have hkI : (k : Int) < (is.length : Int) := by omega
        have HLT := Lib.hid hlt
        have HWK1 := Lib.hid (wk1 k _ hlt (by have := HIL.out; omega))
        have HB3 := Lib.hid (HB.out.alloc HB.out.size (.cells #[.int .i64 x.it.seq, .bool x.it.again, .string x.it.m.top, .string x.it.m.body, .slice x.pa x.it.m.ps.length x.pc, .bool x.it.m.dur, .int .i64 x.it.m.unt] 44))
        clear hx hlt hk ok
        go_wp2_with fail
        go_roundw
        case rel => exact ⟨k + 1, _, HLT.out, by first | rfl | (rw [HWK1.out]; rfl), rfl, HB3⟩
        case measure => first | exact round_less1 HLT.out | (rw [HWK1.out]; exact round_less1 HLT.out)
      · have hk2 : k = is.length := by omega
        subst hk2
        clear hlt hk
        have z6 := HZ0.out wr HB.out 6 _ rfl
        go_wp2_with fail
        have BB := HB
        clear HB
        go_loopw [3, 39] (fun t i wr => ∃ (k : Nat) (s : Int), k ≤ hs.length ∧ i = .int .i64 k ∧ t = .int .i64 s ∧ Hid (Below W.heap.size W wr)) (fun _ i _ => hs.length - (intOf i).toNat)
        case atStart => exact ⟨0, _, Nat.zero_le _, rfl, rfl, BB⟩
        case round =>
          clear BB
          obtain ⟨k, s, hk, rfl, rfl, HB⟩ := hrel
          by_cases hlt : k < hs.length
          · obtain ⟨x, hx⟩ : ∃ x, hs[k]? = some x := ⟨_, List.getElem?_eq_getElem hlt⟩
            obtain ⟨ok, a, rfl, q0, q1, q2, q3, q4, q5, q6, q7, q8, q9⟩ := held_lit (HQH.out.below HB.out) k x hx
            have hkI : (k : Int) < (hs.length : Int) := by omega
            have HLT := Lib.hid hlt
            have HWK1 := Lib.hid (wk1 k _ hlt (by have := HHL.out; omega))
            have HB3 := Lib.hid (HB.out.alloc HB.out.size (.cells #[.int .i64 x.tag, .int .i64 x.conn, .int .i64 x.sub, .int .i64 x.r.it.seq, .bool x.r.it.again, .string x.r.it.m.top, .string x.r.it.m.body, .slice x.r.pa x.r.it.m.ps.length x.r.pc, .bool x.r.it.m.dur, .int .i64 x.r.it.m.unt] 46))
            clear hx hlt hk ok
            go_wp2_with fail
            go_roundw
            case rel => exact ⟨k + 1, _, HLT.out, by first | rfl | (rw [HWK1.out]; rfl), rfl, HB3⟩
            case measure => first | exact round_less1 HLT.out | (rw [HWK1.out]; exact round_less1 HLT.out)
          · have hk2 : k = hs.length := by omega
            subst hk2
            clear hlt hk
            go_wp2_with fail
            go_ret
            exact ⟨_, rfl, HB0.out.trans (HB.out.mono HB0.out.size)⟩
end Go.Proofs.YtelhpdnclmpgoaaDoor

/- Layer 10: QueueStays. (Printed by gen/qgs.py.) -/
namespace Go.Proofs.YtelhpdnclmpgoaaDoor
open Go Go.RowKit Go.Sort
open Go.ChangeShapes Go.WideShapes Go.Deep
set_option linter.unusedSimpArgs false
set_option linter.unusedVariables false

/-- Before a round: the queue in block K. -/
structure ST (w wr : World) (q0 q : Que) (r : QuR) : Prop where
  row : wr.heap[w.heap.size]? = some (.cells #[.string q.name, .bool q.dur, .int .i64 q.depth, .int .i64 q.seq, .int .i64 q.tag, .slice r.ia r.is.length r.ic, .slice r.ha r.hs.length r.hc] 25 (0, 0))
  qin : QuIn wr q r
  gd : goodQ q = true
  fit : q.fit
  far : QF w.heap.size r
  bel : Below w.heap.size w wr
theorem ST.cell {w wr : World} {q0 q : Que} {r : QuR} (h : ST w wr q0 q r) (j : Nat) (u : Value) (hj : (#[.string q.name, .bool q.dur, .int .i64 q.depth, .int .i64 q.seq, .int .i64 q.tag, .slice r.ia r.is.length r.ic, .slice r.ha r.hs.length r.hc] : Array Value)[j]? = some u) : wr.cell? ⟨w.heap.size, j, none⟩ = some u := by simp only [World.cell?, h.row]; exact hj
theorem ST.lt {w wr : World} {q0 q : Que} {r : QuR} (h : ST w wr q0 q r) : w.heap.size < wr.heap.size := (Array.getElem?_eq_some_iff.1 h.row).1
theorem ST.below {w wr w1 : World} {q0 q : Que} {r : QuR} (h : ST w wr q0 q r) (b : Below wr.heap.size wr w1) : ST w w1 q0 q r :=
  ⟨(b.block _ h.lt).trans h.row, h.qin.below b, h.gd, h.fit, h.far, h.bel.trans (b.mono h.bel.size)⟩
set_option maxRecDepth 100000 in
set_option maxHeartbeats 4000000 in
theorem queueStays_c {w : World} (q : Que) (r : QuR) (xs : List OpR) {A : Option Addr} {c : Nat} (hq : QuIn w q r) (hf : q.fit) (hx : ROps w (.slice A xs.length c) xs) (hl : xs.length ≤ 1048576) (hg : GM w) :
    Calls Tryd.prog 6 #[.agg #[.string q.name, .bool q.dur, .int .i64 q.depth, .int .i64 q.seq, .int .i64 q.tag, .slice r.ia r.is.length r.ic, .slice r.ha r.hs.length r.hc], .slice A xs.length c] w fun e w' => e = .returned (.bool true) ∧ Below w.heap.size w w' := by
  obtain ⟨W, hW⟩ : ∃ W, W = (w.alloc (.cells #[.string q.name, .bool q.dur, .int .i64 q.depth, .int .i64 q.seq, .int .i64 q.tag, .slice r.ia r.is.length r.ic, .slice r.ha r.hs.length r.hc] 25)) := ⟨_, rfl⟩
  have b0 : Below w.heap.size w W := by rw [hW]; exact ((Below.refl _ _).alloc (Nat.le_refl _) _)
  have hsz : W.heap.size = w.heap.size + 1 := by rw [hW]; simp
  have r0 : W.heap[w.heap.size]? = some (.cells #[.string q.name, .bool q.dur, .int .i64 q.depth, .int .i64 q.seq, .int .i64 q.tag, .slice r.ia r.is.length r.ic, .slice r.ha r.hs.length r.hc] 25 (0, 0)) := by rw [hW]; exact alloc_at _ _ _ (by simp)
  have HR0 : Hid (∀ w1, Below W.heap.size W w1 → w1.heap[w.heap.size]? = some (.cells #[.string q.name, .bool q.dur, .int .i64 q.depth, .int .i64 q.seq, .int .i64 q.tag, .slice r.ia r.is.length r.ic, .slice r.ha r.hs.length r.hc] 25 (0, 0))) := Lib.hid (fun w1 b => (b.block (w.heap.size) (by omega)).trans r0)
  have HZ0 : Hid (∀ w1, Below W.heap.size W w1 → ∀ j u, (#[.string q.name, .bool q.dur, .int .i64 q.depth, .int .i64 q.seq, .int .i64 q.tag, .slice r.ia r.is.length r.ic, .slice r.ha r.hs.length r.hc] : Array Value)[j]? = some u → w1.cell? ⟨w.heap.size, j, none⟩ = some u) := Lib.hid (fun w1 b j u hj => by simp only [World.cell?, HR0.out w1 b]; exact hj)
  have HF0 : Hid (∀ w1, Below W.heap.size W w1 → ∀ j, w1.frozen? ⟨w.heap.size, j, none⟩ = false) := Lib.hid (fun w1 b j => frozen_of_row _ _ j _ _ (HR0.out w1 b))
  have HWK := Lib.hid (wakes_c (hg.below b0))
  have HQ := Lib.hid (hq.below b0)
  have HFA := Lib.hid (QF.ofIn (K := w.heap.size) hq (Nat.le_refl _))
  have HGM := Lib.hid hg
  have HOP := Lib.hid hx
  have HL := Lib.hid hl
  have HLO := Lib.hid (fun w1 (b : Below W.heap.size W w1) => long_c (w := w1) q r ((hq.below b0).below b) (by have := hf.il; have h1 : q.items.length = r.is.length := (by rw [← hq.ip, List.length_map]); omega) (by have := hf.hl; have h2 : q.held.length = r.hs.length := (by rw [← hq.hp, List.length_map]); omega))
  have HGD := Lib.hid (fun w1 (b : Below W.heap.size W w1) => goodQ_c (w := w1) q r ((hq.below b0).below b) hf ((hg.below b0).below b))
  have HF := Lib.hid hf
  have HB0 := Lib.hid b0
  have HW := Lib.hid hW
  clear hW b0 hsz r0 hq hf hg hx hl
  go_enter Tryd.func6, Tryd.ntmps6
  go_upto_region 1 with fail
  rw [← HW.out]
  go_wp2_with fail
  refine (HWK.out).mono ?_
  rintro e w1 ⟨rfl, b1⟩
  have B1 := Lib.hid b1
  clear b1 HWK
  have z0 := HZ0.out w1 B1.out 0 _ rfl
  have z1 := HZ0.out w1 B1.out 1 _ rfl
  have z2 := HZ0.out w1 B1.out 2 _ rfl
  have z3 := HZ0.out w1 B1.out 3 _ rfl
  have z4 := HZ0.out w1 B1.out 4 _ rfl
  have z5 := HZ0.out w1 B1.out 5 _ rfl
  have z6 := HZ0.out w1 B1.out 6 _ rfl
  go_wp2_with fail
  refine (HLO.out w1 B1.out).mono ?_
  rintro e w2 ⟨b, rfl, b2⟩
  have B2 := Lib.hid (B1.out.trans (b2.mono B1.out.size))
  clear b2 z0 z1 z2 z3 z4 z5 z6
  cases b with
  | true =>
    go_wp2_with fail
    go_ret
    exact ⟨rfl, HB0.out.trans (B2.out.mono HB0.out.size)⟩
  | false =>
    by_cases hbig : (200 : Int) < (xs.length : Int)
    · go_wp2_with fail
      go_ret
      exact ⟨rfl, HB0.out.trans (B2.out.mono HB0.out.size)⟩
    · skip
      have z0 := HZ0.out w2 B2.out 0 _ rfl
      have z1 := HZ0.out w2 B2.out 1 _ rfl
      have z2 := HZ0.out w2 B2.out 2 _ rfl
      have z3 := HZ0.out w2 B2.out 3 _ rfl
      have z4 := HZ0.out w2 B2.out 4 _ rfl
      have z5 := HZ0.out w2 B2.out 5 _ rfl
      have z6 := HZ0.out w2 B2.out 6 _ rfl
      go_wp2_with fail
      refine (HGD.out w2 B2.out).mono ?_
      rintro e w3 ⟨rfl, b3⟩
      have B3 := Lib.hid (B2.out.trans (b3.mono B2.out.size))
      clear b3 z0 z1 z2 z3 z4 z5 z6
      cases hgd : goodQ q with
      | false =>
        go_wp2_with fail
        go_ret
        exact ⟨rfl, HB0.out.trans (B3.out.mono HB0.out.size)⟩
      | true =>
        have HS0 : Hid (ST w w3 q q r) := Lib.hid ⟨HR0.out w3 B3.out, HQ.out.below B3.out, hgd, HF.out, HFA.out, HB0.out.trans (B3.out.mono HB0.out.size)⟩
        clear hgd
        go_wp2_with fail
        clear hbig HGD HLO HQ
        go_loopw [27] (fun i wr => ∃ (k : Nat) (qk : Que) (rk : QuR), k ≤ xs.length ∧ i = .int .i64 k ∧ Hid (ST w wr q qk rk)) (fun i _ => xs.length - (intOf i).toNat)
        case atStart => exact ⟨0, q, r, Nat.zero_le _, rfl, HS0⟩
        case round =>
          clear HS0
          obtain ⟨k, qk, rk, hk, rfl, HS⟩ := hrel
          by_cases hlt : k < xs.length
          · obtain ⟨x, hx⟩ : ∃ x, xs[k]? = some x := ⟨_, List.getElem?_eq_getElem hlt⟩
            obtain ⟨ok, a, rfl, q0, q1, q2, q3, q4, q5, q6, q7, q8⟩ := ops_lit (HOP.out.below HS.out.bel) k x hx
            have hkI : (k : Int) < (xs.length : Int) := by omega
            have HLT := Lib.hid hlt
            have HWK1 := Lib.hid (wk1 k _ hlt (by have := HL.out; omega))
            have HOK := Lib.hid ok
            clear hx hlt hk ok
            go_upto_region 8 with fail
            obtain ⟨W7, hW7⟩ : ∃ W7, W7 = wr.alloc (.cells #[.int .i64 x.o.kind, .int .i64 x.o.conn, .int .i64 x.o.n, .bool x.o.flag, .string x.o.m.top, .string x.o.m.body, .slice x.pa x.o.m.ps.length x.pc, .bool x.o.m.dur, .int .i64 x.o.m.unt] 30) := ⟨_, rfl⟩
            rw [← hW7]
            have b7 : Below wr.heap.size wr W7 := by rw [hW7]; exact (Below.refl _ _).alloc (Nat.le_refl _) _
            have e7 : W7.heap[wr.heap.size]? = some (.cells #[.int .i64 x.o.kind, .int .i64 x.o.conn, .int .i64 x.o.n, .bool x.o.flag, .string x.o.m.top, .string x.o.m.body, .slice x.pa x.o.m.ps.length x.pc, .bool x.o.m.dur, .int .i64 x.o.m.unt] 30 (0, 0)) := by rw [hW7]; exact heap_alloc_new wr _
            have HS7 := Lib.hid (HS.out.below b7)
            have hds := does_step (w := W7) qk rk x.o (A := x.pa) (c := x.pc) HS7.out.qin HS7.out.fit (rc_below HOK.out.1 b7) HOK.out.2 (HGM.out.below HS7.out.bel) HS7.out.gd
            obtain ⟨px, pt, pe, hnx, hds⟩ := hds
            have HNX := Lib.hid hnx
            have HDS := Lib.hid hds
            clear hW7 b7 hnx hds HS HOK q0 q1 q2 q3 q4 q5 q6 q7 q8
            have o0 : W7.cell? ⟨wr.heap.size, 0, none⟩ = some (.int .i64 x.o.kind) := by simp only [World.cell?, e7]; rfl
            have o1 : W7.cell? ⟨wr.heap.size, 1, none⟩ = some (.int .i64 x.o.conn) := by simp only [World.cell?, e7]; rfl
            have o2 : W7.cell? ⟨wr.heap.size, 2, none⟩ = some (.int .i64 x.o.n) := by simp only [World.cell?, e7]; rfl
            have o3 : W7.cell? ⟨wr.heap.size, 3, none⟩ = some (.bool x.o.flag) := by simp only [World.cell?, e7]; rfl
            have o4 : W7.cell? ⟨wr.heap.size, 4, none⟩ = some (.string x.o.m.top) := by simp only [World.cell?, e7]; rfl
            have o5 : W7.cell? ⟨wr.heap.size, 5, none⟩ = some (.string x.o.m.body) := by simp only [World.cell?, e7]; rfl
            have o6 : W7.cell? ⟨wr.heap.size, 6, none⟩ = some (.slice x.pa x.o.m.ps.length x.pc) := by simp only [World.cell?, e7]; rfl
            have o7 : W7.cell? ⟨wr.heap.size, 7, none⟩ = some (.bool x.o.m.dur) := by simp only [World.cell?, e7]; rfl
            have o8 : W7.cell? ⟨wr.heap.size, 8, none⟩ = some (.int .i64 x.o.m.unt) := by simp only [World.cell?, e7]; rfl
            have z0 := HS7.out.cell 0 _ rfl
            have z1 := HS7.out.cell 1 _ rfl
            have z2 := HS7.out.cell 2 _ rfl
            have z3 := HS7.out.cell 3 _ rfl
            have z4 := HS7.out.cell 4 _ rfl
            have z5 := HS7.out.cell 5 _ rfl
            have z6 := HS7.out.cell 6 _ rfl
            clear e7
            by_cases hps : (1000 : Int) < (x.o.m.ps.length : Int)
            · go_wp2_with fail
              go_ret
              exact ⟨rfl, HS7.out.bel⟩
            · skip
              go_wp2_with fail
              refine (HDS.out).mono ?_
              rintro e w8 ⟨r', x', rfl, hq8, hfar, b8⟩
              clear hps o0 o1 o2 o3 o4 o5 o6 o7 o8 z0 z1 z2 z3 z4 z5 z6 HDS
              have HS8 := Lib.hid (HS7.out.below b8)
              have HQ8 := Lib.hid hq8
              have HFR := Lib.hid (hfar _ HS7.out.lt HS7.out.far)
              clear hq8 hfar b8 HS7
              have n1 : ¬ w8.heap.size = w8.heap.size + 1 := by omega
              have n2 : ¬ w8.heap.size + 1 = w8.heap.size := by omega
              go_upto_region 11 with fail
              obtain ⟨V, hV⟩ : ∃ V, V = ((w8.alloc (.cells #[.string px.name, .bool px.dur, .int .i64 px.depth, .int .i64 px.seq, .int .i64 px.tag, .slice r'.ia r'.is.length r'.ic, .slice r'.ha r'.hs.length r'.hc] 25)).alloc (.cells #[.int .i64 x'.it.seq, .bool x'.it.again, .string x'.it.m.top, .string x'.it.m.body, .slice x'.pa x'.it.m.ps.length x'.pc, .bool x'.it.m.dur, .int .i64 x'.it.m.unt] 44)) := ⟨_, rfl⟩
              rw [← hV]
              have bV : Below w8.heap.size w8 V := by rw [hV]; exact ((Below.refl _ _).alloc (Nat.le_refl _) _).alloc (by simp) _
              have eV : V.heap[w8.heap.size]? = some (.cells #[.string px.name, .bool px.dur, .int .i64 px.depth, .int .i64 px.seq, .int .i64 px.tag, .slice r'.ia r'.is.length r'.ic, .slice r'.ha r'.hs.length r'.hc] 25 (0, 0)) := by rw [hV]; exact alloc_keep _ (heap_alloc_new w8 _)
              have HSV := Lib.hid (HS8.out.below bV)
              have HEV := Lib.hid eV
              have HQV := Lib.hid (HQ8.out.below bV)
              clear hV bV n1 n2 HS8 HQ8
              have x0 : V.cell? ⟨w8.heap.size, 0, none⟩ = some (.string px.name) := by simp only [World.cell?, eV]; rfl
              have x1 : V.cell? ⟨w8.heap.size, 1, none⟩ = some (.bool px.dur) := by simp only [World.cell?, eV]; rfl
              have x2 : V.cell? ⟨w8.heap.size, 2, none⟩ = some (.int .i64 px.depth) := by simp only [World.cell?, eV]; rfl
              have x3 : V.cell? ⟨w8.heap.size, 3, none⟩ = some (.int .i64 px.seq) := by simp only [World.cell?, eV]; rfl
              have x4 : V.cell? ⟨w8.heap.size, 4, none⟩ = some (.int .i64 px.tag) := by simp only [World.cell?, eV]; rfl
              have x5 : V.cell? ⟨w8.heap.size, 5, none⟩ = some (.slice r'.ia r'.is.length r'.ic) := by simp only [World.cell?, eV]; rfl
              have x6 : V.cell? ⟨w8.heap.size, 6, none⟩ = some (.slice r'.ha r'.hs.length r'.hc) := by simp only [World.cell?, eV]; rfl
              clear eV
              by_cases he : pe = 0
              · obtain ⟨hgx, hnm, hdp, hsq, htg, hfx⟩ := HNX.out.ok he
                have HGX := Lib.hid hgx
                have HFX := Lib.hid hfx
                have hg8 := goodQ_c (w := V) px r' HQV.out hfx (HGM.out.below HSV.out.bel)
                rw [hgx] at hg8
                have HG8 := Lib.hid hg8
                subst he
                have HNN := Lib.hid (And.intro hnm (And.intro hdp (And.intro hsq htg)))
                clear hgx hfx hg8 hnm hdp hsq htg
                have z0 := HSV.out.cell 0 _ rfl
                have z1 := HSV.out.cell 1 _ rfl
                have z2 := HSV.out.cell 2 _ rfl
                have z3 := HSV.out.cell 3 _ rfl
                have z4 := HSV.out.cell 4 _ rfl
                have z5 := HSV.out.cell 5 _ rfl
                have z6 := HSV.out.cell 6 _ rfl
                go_wp2_with fail
                refine (HG8.out).mono ?_
                rintro e w9 ⟨rfl, b9⟩
                clear x0 x1 x2 x3 x4 x5 x6 z0 z1 z2 z3 z4 z5 z6 HG8
                have HS9 := Lib.hid (HSV.out.below b9)
                have HE9 := Lib.hid ((b9.block _ (Array.getElem?_eq_some_iff.1 HEV.out).1).trans HEV.out)
                have HQ9 := Lib.hid (HQV.out.below b9)
                clear b9 HSV HEV HQV
                have x0 : w9.cell? ⟨w8.heap.size, 0, none⟩ = some (.string px.name) := by simp only [World.cell?, HE9.out]; rfl
                have x1 : w9.cell? ⟨w8.heap.size, 1, none⟩ = some (.bool px.dur) := by simp only [World.cell?, HE9.out]; rfl
                have x2 : w9.cell? ⟨w8.heap.size, 2, none⟩ = some (.int .i64 px.depth) := by simp only [World.cell?, HE9.out]; rfl
                have x3 : w9.cell? ⟨w8.heap.size, 3, none⟩ = some (.int .i64 px.seq) := by simp only [World.cell?, HE9.out]; rfl
                have x4 : w9.cell? ⟨w8.heap.size, 4, none⟩ = some (.int .i64 px.tag) := by simp only [World.cell?, HE9.out]; rfl
                have x5 : w9.cell? ⟨w8.heap.size, 5, none⟩ = some (.slice r'.ia r'.is.length r'.ic) := by simp only [World.cell?, HE9.out]; rfl
                have x6 : w9.cell? ⟨w8.heap.size, 6, none⟩ = some (.slice r'.ha r'.hs.length r'.hc) := by simp only [World.cell?, HE9.out]; rfl
                have z0 := HS9.out.cell 0 _ rfl
                have z1 := HS9.out.cell 1 _ rfl
                have z2 := HS9.out.cell 2 _ rfl
                have z3 := HS9.out.cell 3 _ rfl
                have z4 := HS9.out.cell 4 _ rfl
                have z5 := HS9.out.cell 5 _ rfl
                have z6 := HS9.out.cell 6 _ rfl
                have fz : ∀ j, w9.frozen? ⟨w.heap.size, j, none⟩ = false := fun j => frozen_of_row _ _ j _ _ HS9.out.row
                have hs1 : ¬ px.seq < qk.seq := by have := HNN.out.2.2.1; omega
                have hs2 : ¬ px.tag < qk.tag := by have := HNN.out.2.2.2; omega
                rw [HNN.out.1] at x0
                rw [HNN.out.2.1] at x2
                have HN : Hid (px.name = qk.name ∧ px.depth = qk.depth) := Lib.hid ⟨HNN.out.1, HNN.out.2.1⟩
                have HSN : Hid (ST w (((((((w9.setCell ⟨w.heap.size, 0, none⟩ (.string qk.name)).setCell ⟨w.heap.size, 1, none⟩ (.bool px.dur)).setCell ⟨w.heap.size, 2, none⟩ (.int .i64 qk.depth)).setCell ⟨w.heap.size, 3, none⟩ (.int .i64 px.seq)).setCell ⟨w.heap.size, 4, none⟩ (.int .i64 px.tag)).setCell ⟨w.heap.size, 5, none⟩ (.slice r'.ia r'.is.length r'.ic)).setCell ⟨w.heap.size, 6, none⟩ (.slice r'.ha r'.hs.length r'.hc)) q px r') := Lib.hid ⟨by rw [HN.out.1, HN.out.2]; exact cells7_at HS9.out.row _ _ _ _ _ _ _, HQ9.out.set HFR.out (grown7 _ _ _ _ _ _ _ _ _), HGX.out, HFX.out, HFR.out, below7 HS9.out.bel (Nat.le_refl _) _ _ _ _ _ _ _⟩
                go_wp2_with fail
                go_roundw
                case rel => exact ⟨k + 1, px, r', HLT.out, by first | rfl | (rw [HWK1.out]; rfl), HSN⟩
                case measure => first | exact round_less1 HLT.out | (rw [HWK1.out]; exact round_less1 HLT.out)
              · obtain rfl : px = noQ := HNX.out.bad he
                have hi0 : r'.is.length = 0 := by have h := congrArg List.length HQV.out.ip; rw [List.length_map] at h; exact h
                have hh0 : r'.hs.length = 0 := by have h := congrArg List.length HQV.out.hp; rw [List.length_map] at h; exact h
                rw [hi0] at x5
                rw [hh0] at x6
                have x0' : V.cell? ⟨w8.heap.size, 0, none⟩ = some (.string ⟨#[]⟩) := x0
                have heb : (pe == 0) = false := by rw [beq_eq_false_iff_ne]; exact he
                clear x0 hi0 hh0
                go_wp2_with fail
                go_roundw
                case rel => exact ⟨k + 1, qk, rk, HLT.out, by first | rfl | (rw [HWK1.out]; rfl), HSV⟩
                case measure => first | exact round_less1 HLT.out | (rw [HWK1.out]; exact round_less1 HLT.out)
          · have hk2 : k = xs.length := by omega
            subst hk2
            have HBE := Lib.hid HS.out.bel
            clear hlt hk HS
            go_wp2_with fail
            go_ret
            exact ⟨rfl, HBE.out⟩
end Go.Proofs.YtelhpdnclmpgoaaDoor
