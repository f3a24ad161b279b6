/- Layer 10: the reference's sameness of queues. (Printed by gen/qcb.py.) -/
import Derived.Test.YtelhpdnclmpgoaaDoorQcA
import Derived.Deep.DeepCutAuto
import Derived.Deep.CutRange
import Derived.RegionTactic
namespace Go.Proofs.YtelhpdnclmpgoaaDoor
open Go Go.RowKit Go.Sort
set_option linter.unusedSimpArgs false
set_option linter.unusedVariables false

theorem sameItem_t {w : World} (x x' : ItR) (hp : x.ok w) (hp' : x'.ok w) (h : x.it = x'.it) :
    Calls Tryd.prog 35 #[.agg #[.int .i64 x.it.seq, .bool x.it.again, .string x.it.m.top, .string x.it.m.body, .slice x.pa x.it.m.ps.length x.pc, .bool x.it.m.dur, .int .i64 x.it.m.unt], .agg #[.int .i64 x'.it.seq, .bool x'.it.again, .string x'.it.m.top, .string x'.it.m.body, .slice x'.pa x'.it.m.ps.length x'.pc, .bool x'.it.m.dur, .int .i64 x'.it.m.unt]] w fun e w' => e = .returned (.bool true) ∧ Below w.heap.size w w' :=
  (sameItem_c x x' hp hp').mono fun e w' ⟨b, he, hb, hw⟩ => ⟨by rw [he, hb.2 h], hw⟩
theorem sameItem_f {w : World} (x x' : ItR) (hp : x.ok w) (hp' : x'.ok w) (h : ¬ x.it = x'.it) :
    Calls Tryd.prog 35 #[.agg #[.int .i64 x.it.seq, .bool x.it.again, .string x.it.m.top, .string x.it.m.body, .slice x.pa x.it.m.ps.length x.pc, .bool x.it.m.dur, .int .i64 x.it.m.unt], .agg #[.int .i64 x'.it.seq, .bool x'.it.again, .string x'.it.m.top, .string x'.it.m.body, .slice x'.pa x'.it.m.ps.length x'.pc, .bool x'.it.m.dur, .int .i64 x'.it.m.unt]] w fun e w' => e = .returned (.bool false) ∧ Below w.heap.size w w' :=
  (sameItem_c x x' hp hp').mono fun e w' ⟨b, he, hb, hw⟩ => ⟨by cases b with | false => exact he | true => exact absurd (hb.1 rfl) h, hw⟩

theorem items_lit {w : World} {A : Option Addr} {n c : Nat} {xs : List ItR} (h : RIt w (.slice A n c) xs) : ∀ k x, xs[k]? = some x → x.ok w ∧ ∃ a, A = some a ∧ w.cell? (a.add (k * 7)) = some (.int .i64 x.it.seq) ∧ w.cell? ⟨(a.add (k * 7)).block, (a.add (k * 7)).off + 1, none⟩ = some (.bool x.it.again) ∧ w.cell? ⟨(a.add (k * 7)).block, (a.add (k * 7)).off + 2, none⟩ = some (.string x.it.m.top) ∧ w.cell? ⟨(a.add (k * 7)).block, (a.add (k * 7)).off + 3, none⟩ = some (.string x.it.m.body) ∧ w.cell? ⟨(a.add (k * 7)).block, (a.add (k * 7)).off + 4, none⟩ = some (.slice x.pa x.it.m.ps.length x.pc) ∧ w.cell? ⟨(a.add (k * 7)).block, (a.add (k * 7)).off + 5, none⟩ = some (.bool x.it.m.dur) ∧ w.cell? ⟨(a.add (k * 7)).block, (a.add (k * 7)).off + 6, none⟩ = some (.int .i64 x.it.m.unt) := by
  obtain ⟨A', c', he, _, hc⟩ := items_at h
  injection he with h1 h2 h3
  subst h1
  exact hc
theorem held_lit {w : World} {A : Option Addr} {n c : Nat} {xs : List HlR} (h : RHl w (.slice A n c) xs) : ∀ k x, xs[k]? = some x → x.r.ok w ∧ ∃ a, A = some a ∧ w.cell? (a.add (k * 10)) = some (.int .i64 x.tag) ∧ w.cell? ⟨(a.add (k * 10)).block, (a.add (k * 10)).off + 1, none⟩ = some (.int .i64 x.conn) ∧ w.cell? ⟨(a.add (k * 10)).block, (a.add (k * 10)).off + 2, none⟩ = some (.int .i64 x.sub) ∧ w.cell? ⟨(a.add (k * 10)).block, (a.add (k * 10)).off + 3, none⟩ = some (.int .i64 x.r.it.seq) ∧ w.cell? ⟨(a.add (k * 10)).block, (a.add (k * 10)).off + 4, none⟩ = some (.bool x.r.it.again) ∧ w.cell? ⟨(a.add (k * 10)).block, (a.add (k * 10)).off + 5, none⟩ = some (.string x.r.it.m.top) ∧ w.cell? ⟨(a.add (k * 10)).block, (a.add (k * 10)).off + 6, none⟩ = some (.string x.r.it.m.body) ∧ w.cell? ⟨(a.add (k * 10)).block, (a.add (k * 10)).off + 7, none⟩ = some (.slice x.r.pa x.r.it.m.ps.length x.r.pc) ∧ w.cell? ⟨(a.add (k * 10)).block, (a.add (k * 10)).off + 8, none⟩ = some (.bool x.r.it.m.dur) ∧ w.cell? ⟨(a.add (k * 10)).block, (a.add (k * 10)).off + 9, none⟩ = some (.int .i64 x.r.it.m.unt) := by
  obtain ⟨A', c', he, _, hc⟩ := held_at h
  injection he with h1 h2 h3
  subst h1
  exact hc


set_option maxRecDepth 100000 in
set_option maxHeartbeats 4000000 in
theorem sameQ_c {w : World} (q q' : Que) (r r' : QuR) (hq : QuIn w q r) (hq' : QuIn w q' r') :
    Calls Tryd.prog 14 #[.agg #[.string q.name, .bool q.dur, .int .i64 q.depth, .int .i64 q.seq, .int .i64 q.tag, .slice r.ia r.is.length r.ic, .slice r.ha r.hs.length r.hc], .agg #[.string q'.name, .bool q'.dur, .int .i64 q'.depth, .int .i64 q'.seq, .int .i64 q'.tag, .slice r'.ia r'.is.length r'.ic, .slice r'.ha r'.hs.length r'.hc]] w fun e w' => ∃ b : Bool, e = .returned (.bool b) ∧ (b = true ↔ q = q') ∧ Below w.heap.size w w' := by
  obtain ⟨nm, du, dp, sq, tg, its, hds⟩ := q
  obtain ⟨nm', du', dp', sq', tg', its', hds'⟩ := q'
  obtain ⟨ia, ic, is, ha, hc, hs⟩ := r
  obtain ⟨ia', ic', is', ha', hc', hs'⟩ := r'
  obtain ⟨hi, hh, hip, hhp⟩ := hq
  obtain ⟨hi', hh', hip', hhp'⟩ := hq'
  dsimp only at hi hh hip hhp hi' hh' hip' hhp' ⊢
  subst hip hhp hip' hhp'
  have b0 := (Below.refl w.heap.size w).alloc (Nat.le_refl _) (.cells #[.string nm, .bool du, .int .i64 dp, .int .i64 sq, .int .i64 tg, .slice ia is.length ic, .slice ha hs.length hc] 25)
  have b1 := b0.alloc b0.size (.cells #[.string nm', .bool du', .int .i64 dp', .int .i64 sq', .int .i64 tg', .slice ia' is'.length ic', .slice ha' hs'.length hc'] 25)
  obtain ⟨W, hW⟩ : ∃ W, W = (w.alloc (.cells #[.string nm, .bool du, .int .i64 dp, .int .i64 sq, .int .i64 tg, .slice ia is.length ic, .slice ha hs.length hc] 25)).alloc (.cells #[.string nm', .bool du', .int .i64 dp', .int .i64 sq', .int .i64 tg', .slice ia' is'.length ic', .slice ha' hs'.length hc'] 25) := ⟨_, rfl⟩
  have z : ∀ j u, (#[.string nm, .bool du, .int .i64 dp, .int .i64 sq, .int .i64 tg, .slice ia is.length ic, .slice ha hs.length hc] : Array Value)[j]? = some u → W.cell? ⟨w.heap.size, j, none⟩ = some u := fun j u hj => by rw [hW]; exact Lib.cell?_alloc_some _ (new_cell j u hj)
  have z' : ∀ j u, (#[.string nm', .bool du', .int .i64 dp', .int .i64 sq', .int .i64 tg', .slice ia' is'.length ic', .slice ha' hs'.length hc'] : Array Value)[j]? = some u → W.cell? ⟨w.heap.size + 1, j, none⟩ = some u := fun j u hj => by
    have hsz : (w.alloc (.cells #[.string nm, .bool du, .int .i64 dp, .int .i64 sq, .int .i64 tg, .slice ia is.length ic, .slice ha hs.length hc] 25)).heap.size = w.heap.size + 1 := by show (Array.push _ _).size = _; simp
    rw [hW, ← hsz]
    exact new_cell j u hj
  rw [← hW] at b1
  have HB := Lib.hid b1
  have HWW := Lib.hid hW
  have HZ := Lib.hid z
  have HZ' := Lib.hid z'
  have HI := Lib.hid hi
  have HI' := Lib.hid hi'
  have HH := Lib.hid hh
  have HH' := Lib.hid hh'
  clear hi hh hi' hh' z z' b0 b1 hW
  by_cases hnm : nm = nm'
  · skip
    subst hnm
    by_cases hdu : du = du'
    · skip
      subst hdu
      by_cases hdp : dp = dp'
      · skip
        subst hdp
        by_cases hsq : sq = sq'
        · skip
          subst hsq
          by_cases htg : tg = tg'
          · skip
            subst htg
            by_cases hli : is.length = is'.length
            · skip
              have HLI := Lib.hid hli
              clear hli
              by_cases hlh : hs.length = hs'.length
              · skip
                have HLH := Lib.hid hlh
                clear hlh
                go_enter Tryd.func14, Tryd.ntmps14
                go_upto_region 1 with fail
                rw [← HWW.out]
                have x0 := HZ.out 0 _ rfl
                have y0 := HZ'.out 0 _ rfl
                have x1 := HZ.out 1 _ rfl
                have y1 := HZ'.out 1 _ rfl
                have x2 := HZ.out 2 _ rfl
                have y2 := HZ'.out 2 _ rfl
                have x3 := HZ.out 3 _ rfl
                have y3 := HZ'.out 3 _ rfl
                have x4 := HZ.out 4 _ rfl
                have y4 := HZ'.out 4 _ rfl
                have x5 := HZ.out 5 _ rfl
                have y5 := HZ'.out 5 _ rfl
                have x6 := HZ.out 6 _ rfl
                have y6 := HZ'.out 6 _ rfl
                have zi := x5
                have zi' := y5
                have HX6 := Lib.hid x6
                have HY6 := Lib.hid y6
                rw [← HLI.out] at y5 zi'
                rw [← HLH.out] at y6
                go_wp2_with fail
                clear x0 y0 x1 y1 x2 y2 x3 y3 x4 y4 x5 y5 x6 y6
                go_loopw [63] (fun i wr => ∃ k : Nat, k ≤ is.length ∧ i = .int .i64 k ∧ Hid ((is.take k).map ItR.it = (is'.take k).map ItR.it) ∧ Below W.heap.size W wr) (fun i _ => is.length - (intOf i).toNat)
                case atStart => exact ⟨0, Nat.zero_le _, rfl, Lib.hid rfl, Below.refl _ _⟩
                case round =>
                  obtain ⟨k, hk, rfl, HT, b2⟩ := hrel
                  have B2 := Lib.hid (HB.out.trans (b2.mono HB.out.size))
                  by_cases hlt : k < is.length
                  · obtain ⟨x, hx⟩ : ∃ x, is[k]? = some x := ⟨_, List.getElem?_eq_getElem hlt⟩
                    obtain ⟨x', hx'⟩ : ∃ x', is'[k]? = some x' := ⟨_, List.getElem?_eq_getElem (by have := HLI.out; omega)⟩
                    obtain ⟨ok, a, rfl, q0, q1, q2, q3, q4, q5, q6⟩ := items_lit (HI.out.below B2.out) k x hx
                    obtain ⟨ok', a', rfl, r0, r1, r2, r3, r4, r5, r6⟩ := items_lit (HI'.out.below B2.out) k x' hx'
                    have hkI : (k : Int) < is.length := by omega
                    have HLT := Lib.hid hlt
                    have HXX := Lib.hid hx
                    have HXX' := Lib.hid hx'
                    have g5 := cell_below b2 (World.block_lt_of_cell? W _ zi) zi
                    have g5' := cell_below b2 (World.block_lt_of_cell? W _ zi') zi' 
                    have z5 : ∀ d os, (grow (redrawn wr d) os).cell? ⟨w.heap.size, 5, none⟩ = some (.slice (some a) is.length ic) := fun d os => cell_regrown g5 d os
                    have z5' : ∀ d os, (grow (redrawn wr d) os).cell? ⟨w.heap.size + 1, 5, none⟩ = some (.slice (some a') is.length ic') := fun d os => cell_regrown g5' d os
                    have zi0 : ∀ d os, (grow (redrawn wr d) os).cell? (a.add (k * 7)) = some (.int .i64 x.it.seq) := fun d os => cell_regrown q0 d os
                    have zi1 : ∀ d os, (grow (redrawn wr d) os).cell? ⟨(a.add (k * 7)).block, (a.add (k * 7)).off + 1, none⟩ = some (.bool x.it.again) := fun d os => cell_regrown q1 d os
                    have zi2 : ∀ d os, (grow (redrawn wr d) os).cell? ⟨(a.add (k * 7)).block, (a.add (k * 7)).off + 2, none⟩ = some (.string x.it.m.top) := fun d os => cell_regrown q2 d os
                    have zi3 : ∀ d os, (grow (redrawn wr d) os).cell? ⟨(a.add (k * 7)).block, (a.add (k * 7)).off + 3, none⟩ = some (.string x.it.m.body) := fun d os => cell_regrown q3 d os
                    have zi4 : ∀ d os, (grow (redrawn wr d) os).cell? ⟨(a.add (k * 7)).block, (a.add (k * 7)).off + 4, none⟩ = some (.slice x.pa x.it.m.ps.length x.pc) := fun d os => cell_regrown q4 d os
                    have zi5 : ∀ d os, (grow (redrawn wr d) os).cell? ⟨(a.add (k * 7)).block, (a.add (k * 7)).off + 5, none⟩ = some (.bool x.it.m.dur) := fun d os => cell_regrown q5 d os
                    have zi6 : ∀ d os, (grow (redrawn wr d) os).cell? ⟨(a.add (k * 7)).block, (a.add (k * 7)).off + 6, none⟩ = some (.int .i64 x.it.m.unt) := fun d os => cell_regrown q6 d os
                    have yi0 : ∀ d os, (grow (redrawn wr d) os).cell? (a'.add (k * 7)) = some (.int .i64 x'.it.seq) := fun d os => cell_regrown r0 d os
                    have yi1 : ∀ d os, (grow (redrawn wr d) os).cell? ⟨(a'.add (k * 7)).block, (a'.add (k * 7)).off + 1, none⟩ = some (.bool x'.it.again) := fun d os => cell_regrown r1 d os
                    have yi2 : ∀ d os, (grow (redrawn wr d) os).cell? ⟨(a'.add (k * 7)).block, (a'.add (k * 7)).off + 2, none⟩ = some (.string x'.it.m.top) := fun d os => cell_regrown r2 d os
                    have yi3 : ∀ d os, (grow (redrawn wr d) os).cell? ⟨(a'.add (k * 7)).block, (a'.add (k * 7)).off + 3, none⟩ = some (.string x'.it.m.body) := fun d os => cell_regrown r3 d os
                    have yi4 : ∀ d os, (grow (redrawn wr d) os).cell? ⟨(a'.add (k * 7)).block, (a'.add (k * 7)).off + 4, none⟩ = some (.slice x'.pa x'.it.m.ps.length x'.pc) := fun d os => cell_regrown r4 d os
                    have yi5 : ∀ d os, (grow (redrawn wr d) os).cell? ⟨(a'.add (k * 7)).block, (a'.add (k * 7)).off + 5, none⟩ = some (.bool x'.it.m.dur) := fun d os => cell_regrown r5 d os
                    have yi6 : ∀ d os, (grow (redrawn wr d) os).cell? ⟨(a'.add (k * 7)).block, (a'.add (k * 7)).off + 6, none⟩ = some (.int .i64 x'.it.m.unt) := fun d os => cell_regrown r6 d os
                    clear hx hx' q0 q1 q2 q3 q4 q5 q6 r0 r1 r2 r3 r4 r5 r6 g5 g5' hlt
                    have bR := fun d os => below_regrown wr d os
                    have BR := Lib.hid bR
                    have OK := Lib.hid ok
                    have OK' := Lib.hid ok'
                    clear bR ok ok'
                    by_cases hit : x.it = x'.it
                    · skip
                      have cS : ∀ d os, Calls Tryd.prog 35 #[.agg #[.int .i64 x.it.seq, .bool x.it.again, .string x.it.m.top, .string x.it.m.body, .slice x.pa x.it.m.ps.length x.pc, .bool x.it.m.dur, .int .i64 x.it.m.unt], .agg #[.int .i64 x'.it.seq, .bool x'.it.again, .string x'.it.m.top, .string x'.it.m.body, .slice x'.pa x'.it.m.ps.length x'.pc, .bool x'.it.m.dur, .int .i64 x'.it.m.unt]] (grow (redrawn wr d) os) fun e w'' => e = .returned (.bool true) ∧ ∃ p : Regrown, w'' = grow (redrawn wr p.d) p.os := fun d os => Calls.regrown_of (sameItem_t x x' (OK.out.below (BR.out d os)) (OK'.out.below (BR.out d os)) hit)
                      have hnx : (is.take (k + 1)).map ItR.it = (is'.take (k + 1)).map ItR.it := by rw [List.take_add_one, List.take_add_one, HXX.out, HXX'.out, List.map_append, List.map_append, HT.out]; simp [hit]
                      have HNX := Lib.hid hnx
                      clear hit hnx
                      go_upto_region 6 with fail
                      refine wp_region_quiet_below (by kernel_rfl) (by kernel_rfl) ?_
                      repeat (go_big_quiet_step (first | exact cS _ _))
                      refine wpQuiet_nil ?_
                      intro _ hw'
                      obtain ⟨⟨dq, osq⟩, hw''⟩ := hw'
                      subst hw''
                      have bE := b2.trans ((below_regrown wr dq osq).mono b2.size)
                      have hwk : wrap64 ((k : Int) + 1) = (k : Int) + 1 := by have := B2.out; have := HLT.out; have h63 : is.length ≤ 9223372036854775807 := (by obtain ⟨_, _, he, h1, h2, _⟩ := HI.out.1; omega); unfold wrap64; omega
                      go_wp2
                      go_roundw
                      case rel => exact ⟨k + 1, by have := HLT.out; omega, by go_num, HNX, bE⟩
                      case measure => first | exact round_less1 HLT.out | (rw [hwk]; exact round_less1 HLT.out)
                    · skip
                      have cS : ∀ d os, Calls Tryd.prog 35 #[.agg #[.int .i64 x.it.seq, .bool x.it.again, .string x.it.m.top, .string x.it.m.body, .slice x.pa x.it.m.ps.length x.pc, .bool x.it.m.dur, .int .i64 x.it.m.unt], .agg #[.int .i64 x'.it.seq, .bool x'.it.again, .string x'.it.m.top, .string x'.it.m.body, .slice x'.pa x'.it.m.ps.length x'.pc, .bool x'.it.m.dur, .int .i64 x'.it.m.unt]] (grow (redrawn wr d) os) fun e w'' => e = .returned (.bool false) ∧ ∃ p : Regrown, w'' = grow (redrawn wr p.d) p.os := fun d os => Calls.regrown_of (sameItem_f x x' (OK.out.below (BR.out d os)) (OK'.out.below (BR.out d os)) hit)
                      have HNE : Hid (¬ Que.mk nm du dp sq tg (is.map ItR.it) (hs.map HlR.pl) = Que.mk nm du dp sq tg (is'.map ItR.it) (hs'.map HlR.pl)) := Lib.hid (fun e => hit (by
                        have h2 : is.map ItR.it = is'.map ItR.it := (by injection e)
                        have h3 := congrArg (fun l => l[k]?) h2
                        simp only [List.getElem?_map, HXX.out, HXX'.out, Option.map_some, Option.some.injEq] at h3
                        exact h3))
                      clear hit
                      go_upto_region 6 with fail
                      refine wp_region_quiet_below (by kernel_rfl) (by kernel_rfl) ?_
                      repeat (go_big_quiet_step (first | exact cS _ _))
                      refine wpQuiet_nil ?_
                      intro _ hw'
                      obtain ⟨⟨dq, osq⟩, hw''⟩ := hw'
                      subst hw''
                      have bE := B2.out.trans ((below_regrown wr dq osq).mono B2.out.size)
                      go_wp2
                      go_ret
                      exact ⟨false, rfl, ⟨(fun h => by cases h), fun h => absurd h HNE.out⟩, bE⟩
                  · have hk2 : k = is.length := by omega
                    subst hk2
                    have hIT : is.map ItR.it = is'.map ItR.it := by
                      have := HT.out
                      rwa [List.take_of_length_le (Nat.le_refl _), List.take_of_length_le (by have := HLI.out; omega)] at this
                    have HIT := Lib.hid hIT
                    clear hlt hIT
                    have g6 := cell_below b2 (World.block_lt_of_cell? W _ HX6.out) HX6.out
                    have y6 := HY6.out
                    rw [← HLH.out] at y6
                    have g6' := cell_below b2 (World.block_lt_of_cell? W _ y6) y6
                    have BB := Lib.hid b2
                    have Y6 := Lib.hid y6
                    clear zi zi' b2 y6
                    go_wp2_with fail
                    clear g6 g6'
                    go_loopw [82] (fun i wr => ∃ k : Nat, k ≤ hs.length ∧ i = .int .i64 k ∧ Hid ((hs.take k).map HlR.pl = (hs'.take k).map HlR.pl) ∧ Below W.heap.size W wr) (fun i _ => hs.length - (intOf i).toNat)
                    case atStart => exact ⟨0, Nat.zero_le _, rfl, Lib.hid rfl, BB.out⟩
                    case round =>
                      obtain ⟨k, hk, rfl, HT, b2⟩ := hrel
                      have B2 := Lib.hid (HB.out.trans (b2.mono HB.out.size))
                      by_cases hlt : k < hs.length
                      · obtain ⟨x, hx⟩ : ∃ x, hs[k]? = some x := ⟨_, List.getElem?_eq_getElem hlt⟩
                        obtain ⟨x', hx'⟩ : ∃ x', hs'[k]? = some x' := ⟨_, List.getElem?_eq_getElem (by have := HLH.out; omega)⟩
                        obtain ⟨ok, a, rfl, q0, q1, q2, q3, q4, q5, q6, q7, q8, q9⟩ := held_lit (HH.out.below B2.out) k x hx
                        obtain ⟨ok', a', rfl, r0, r1, r2, r3, r4, r5, r6, r7, r8, r9⟩ := held_lit (HH'.out.below B2.out) k x' hx'
                        have hkI : (k : Int) < hs.length := by omega
                        have HLT := Lib.hid hlt
                        have HXX := Lib.hid hx
                        have HXX' := Lib.hid hx'
                        have g5 := cell_below b2 (World.block_lt_of_cell? W _ HX6.out) HX6.out
                        have g5' := cell_below b2 (World.block_lt_of_cell? W _ Y6.out) Y6.out
                        have BR := Lib.hid b2
                        have OK := Lib.hid ok
                        have OK' := Lib.hid ok'
                        clear hx hx' ok ok' hlt b2
                        go_wp2_with fail
                        have e50 : ∀ o, (wr.alloc o).cell? ⟨w.heap.size, 6, none⟩ = some (.slice (some a) hs.length hc) := fun o => Lib.cell?_alloc_some _ g5
                        have e51 : ∀ o o', ((wr.alloc o).alloc o').cell? ⟨w.heap.size, 6, none⟩ = some (.slice (some a) hs.length hc) := fun o o' => Lib.cell?_alloc_some _ (Lib.cell?_alloc_some _ g5)
                        have e60 : ∀ o, (wr.alloc o).cell? ⟨w.heap.size + 1, 6, none⟩ = some (.slice (some a') hs.length hc') := fun o => Lib.cell?_alloc_some _ g5'
                        have e61 : ∀ o o', ((wr.alloc o).alloc o').cell? ⟨w.heap.size + 1, 6, none⟩ = some (.slice (some a') hs.length hc') := fun o o' => Lib.cell?_alloc_some _ (Lib.cell?_alloc_some _ g5')
                        have eq00 : ∀ o, (wr.alloc o).cell? (a.add (k * 10)) = some (.int .i64 x.tag) := fun o => Lib.cell?_alloc_some _ q0
                        have eq01 : ∀ o o', ((wr.alloc o).alloc o').cell? (a.add (k * 10)) = some (.int .i64 x.tag) := fun o o' => Lib.cell?_alloc_some _ (Lib.cell?_alloc_some _ q0)
                        have eq10 : ∀ o, (wr.alloc o).cell? ⟨(a.add (k * 10)).block, (a.add (k * 10)).off + 1, none⟩ = some (.int .i64 x.conn) := fun o => Lib.cell?_alloc_some _ q1
                        have eq11 : ∀ o o', ((wr.alloc o).alloc o').cell? ⟨(a.add (k * 10)).block, (a.add (k * 10)).off + 1, none⟩ = some (.int .i64 x.conn) := fun o o' => Lib.cell?_alloc_some _ (Lib.cell?_alloc_some _ q1)
                        have eq20 : ∀ o, (wr.alloc o).cell? ⟨(a.add (k * 10)).block, (a.add (k * 10)).off + 2, none⟩ = some (.int .i64 x.sub) := fun o => Lib.cell?_alloc_some _ q2
                        have eq21 : ∀ o o', ((wr.alloc o).alloc o').cell? ⟨(a.add (k * 10)).block, (a.add (k * 10)).off + 2, none⟩ = some (.int .i64 x.sub) := fun o o' => Lib.cell?_alloc_some _ (Lib.cell?_alloc_some _ q2)
                        have eq30 : ∀ o, (wr.alloc o).cell? ⟨(a.add (k * 10)).block, (a.add (k * 10)).off + 3, none⟩ = some (.int .i64 x.r.it.seq) := fun o => Lib.cell?_alloc_some _ q3
                        have eq31 : ∀ o o', ((wr.alloc o).alloc o').cell? ⟨(a.add (k * 10)).block, (a.add (k * 10)).off + 3, none⟩ = some (.int .i64 x.r.it.seq) := fun o o' => Lib.cell?_alloc_some _ (Lib.cell?_alloc_some _ q3)
                        have eq40 : ∀ o, (wr.alloc o).cell? ⟨(a.add (k * 10)).block, (a.add (k * 10)).off + 4, none⟩ = some (.bool x.r.it.again) := fun o => Lib.cell?_alloc_some _ q4
                        have eq41 : ∀ o o', ((wr.alloc o).alloc o').cell? ⟨(a.add (k * 10)).block, (a.add (k * 10)).off + 4, none⟩ = some (.bool x.r.it.again) := fun o o' => Lib.cell?_alloc_some _ (Lib.cell?_alloc_some _ q4)
                        have eq50 : ∀ o, (wr.alloc o).cell? ⟨(a.add (k * 10)).block, (a.add (k * 10)).off + 5, none⟩ = some (.string x.r.it.m.top) := fun o => Lib.cell?_alloc_some _ q5
                        have eq51 : ∀ o o', ((wr.alloc o).alloc o').cell? ⟨(a.add (k * 10)).block, (a.add (k * 10)).off + 5, none⟩ = some (.string x.r.it.m.top) := fun o o' => Lib.cell?_alloc_some _ (Lib.cell?_alloc_some _ q5)
                        have eq60 : ∀ o, (wr.alloc o).cell? ⟨(a.add (k * 10)).block, (a.add (k * 10)).off + 6, none⟩ = some (.string x.r.it.m.body) := fun o => Lib.cell?_alloc_some _ q6
                        have eq61 : ∀ o o', ((wr.alloc o).alloc o').cell? ⟨(a.add (k * 10)).block, (a.add (k * 10)).off + 6, none⟩ = some (.string x.r.it.m.body) := fun o o' => Lib.cell?_alloc_some _ (Lib.cell?_alloc_some _ q6)
                        have eq70 : ∀ o, (wr.alloc o).cell? ⟨(a.add (k * 10)).block, (a.add (k * 10)).off + 7, none⟩ = some (.slice x.r.pa x.r.it.m.ps.length x.r.pc) := fun o => Lib.cell?_alloc_some _ q7
                        have eq71 : ∀ o o', ((wr.alloc o).alloc o').cell? ⟨(a.add (k * 10)).block, (a.add (k * 10)).off + 7, none⟩ = some (.slice x.r.pa x.r.it.m.ps.length x.r.pc) := fun o o' => Lib.cell?_alloc_some _ (Lib.cell?_alloc_some _ q7)
                        have eq80 : ∀ o, (wr.alloc o).cell? ⟨(a.add (k * 10)).block, (a.add (k * 10)).off + 8, none⟩ = some (.bool x.r.it.m.dur) := fun o => Lib.cell?_alloc_some _ q8
                        have eq81 : ∀ o o', ((wr.alloc o).alloc o').cell? ⟨(a.add (k * 10)).block, (a.add (k * 10)).off + 8, none⟩ = some (.bool x.r.it.m.dur) := fun o o' => Lib.cell?_alloc_some _ (Lib.cell?_alloc_some _ q8)
                        have eq90 : ∀ o, (wr.alloc o).cell? ⟨(a.add (k * 10)).block, (a.add (k * 10)).off + 9, none⟩ = some (.int .i64 x.r.it.m.unt) := fun o => Lib.cell?_alloc_some _ q9
                        have eq91 : ∀ o o', ((wr.alloc o).alloc o').cell? ⟨(a.add (k * 10)).block, (a.add (k * 10)).off + 9, none⟩ = some (.int .i64 x.r.it.m.unt) := fun o o' => Lib.cell?_alloc_some _ (Lib.cell?_alloc_some _ q9)
                        have er00 : ∀ o, (wr.alloc o).cell? (a'.add (k * 10)) = some (.int .i64 x'.tag) := fun o => Lib.cell?_alloc_some _ r0
                        have er01 : ∀ o o', ((wr.alloc o).alloc o').cell? (a'.add (k * 10)) = some (.int .i64 x'.tag) := fun o o' => Lib.cell?_alloc_some _ (Lib.cell?_alloc_some _ r0)
                        have er10 : ∀ o, (wr.alloc o).cell? ⟨(a'.add (k * 10)).block, (a'.add (k * 10)).off + 1, none⟩ = some (.int .i64 x'.conn) := fun o => Lib.cell?_alloc_some _ r1
                        have er11 : ∀ o o', ((wr.alloc o).alloc o').cell? ⟨(a'.add (k * 10)).block, (a'.add (k * 10)).off + 1, none⟩ = some (.int .i64 x'.conn) := fun o o' => Lib.cell?_alloc_some _ (Lib.cell?_alloc_some _ r1)
                        have er20 : ∀ o, (wr.alloc o).cell? ⟨(a'.add (k * 10)).block, (a'.add (k * 10)).off + 2, none⟩ = some (.int .i64 x'.sub) := fun o => Lib.cell?_alloc_some _ r2
                        have er21 : ∀ o o', ((wr.alloc o).alloc o').cell? ⟨(a'.add (k * 10)).block, (a'.add (k * 10)).off + 2, none⟩ = some (.int .i64 x'.sub) := fun o o' => Lib.cell?_alloc_some _ (Lib.cell?_alloc_some _ r2)
                        have er30 : ∀ o, (wr.alloc o).cell? ⟨(a'.add (k * 10)).block, (a'.add (k * 10)).off + 3, none⟩ = some (.int .i64 x'.r.it.seq) := fun o => Lib.cell?_alloc_some _ r3
                        have er31 : ∀ o o', ((wr.alloc o).alloc o').cell? ⟨(a'.add (k * 10)).block, (a'.add (k * 10)).off + 3, none⟩ = some (.int .i64 x'.r.it.seq) := fun o o' => Lib.cell?_alloc_some _ (Lib.cell?_alloc_some _ r3)
                        have er40 : ∀ o, (wr.alloc o).cell? ⟨(a'.add (k * 10)).block, (a'.add (k * 10)).off + 4, none⟩ = some (.bool x'.r.it.again) := fun o => Lib.cell?_alloc_some _ r4
                        have er41 : ∀ o o', ((wr.alloc o).alloc o').cell? ⟨(a'.add (k * 10)).block, (a'.add (k * 10)).off + 4, none⟩ = some (.bool x'.r.it.again) := fun o o' => Lib.cell?_alloc_some _ (Lib.cell?_alloc_some _ r4)
                        have er50 : ∀ o, (wr.alloc o).cell? ⟨(a'.add (k * 10)).block, (a'.add (k * 10)).off + 5, none⟩ = some (.string x'.r.it.m.top) := fun o => Lib.cell?_alloc_some _ r5
                        have er51 : ∀ o o', ((wr.alloc o).alloc o').cell? ⟨(a'.add (k * 10)).block, (a'.add (k * 10)).off + 5, none⟩ = some (.string x'.r.it.m.top) := fun o o' => Lib.cell?_alloc_some _ (Lib.cell?_alloc_some _ r5)
                        have er60 : ∀ o, (wr.alloc o).cell? ⟨(a'.add (k * 10)).block, (a'.add (k * 10)).off + 6, none⟩ = some (.string x'.r.it.m.body) := fun o => Lib.cell?_alloc_some _ r6
                        have er61 : ∀ o o', ((wr.alloc o).alloc o').cell? ⟨(a'.add (k * 10)).block, (a'.add (k * 10)).off + 6, none⟩ = some (.string x'.r.it.m.body) := fun o o' => Lib.cell?_alloc_some _ (Lib.cell?_alloc_some _ r6)
                        have er70 : ∀ o, (wr.alloc o).cell? ⟨(a'.add (k * 10)).block, (a'.add (k * 10)).off + 7, none⟩ = some (.slice x'.r.pa x'.r.it.m.ps.length x'.r.pc) := fun o => Lib.cell?_alloc_some _ r7
                        have er71 : ∀ o o', ((wr.alloc o).alloc o').cell? ⟨(a'.add (k * 10)).block, (a'.add (k * 10)).off + 7, none⟩ = some (.slice x'.r.pa x'.r.it.m.ps.length x'.r.pc) := fun o o' => Lib.cell?_alloc_some _ (Lib.cell?_alloc_some _ r7)
                        have er80 : ∀ o, (wr.alloc o).cell? ⟨(a'.add (k * 10)).block, (a'.add (k * 10)).off + 8, none⟩ = some (.bool x'.r.it.m.dur) := fun o => Lib.cell?_alloc_some _ r8
                        have er81 : ∀ o o', ((wr.alloc o).alloc o').cell? ⟨(a'.add (k * 10)).block, (a'.add (k * 10)).off + 8, none⟩ = some (.bool x'.r.it.m.dur) := fun o o' => Lib.cell?_alloc_some _ (Lib.cell?_alloc_some _ r8)
                        have er90 : ∀ o, (wr.alloc o).cell? ⟨(a'.add (k * 10)).block, (a'.add (k * 10)).off + 9, none⟩ = some (.int .i64 x'.r.it.m.unt) := fun o => Lib.cell?_alloc_some _ r9
                        have er91 : ∀ o o', ((wr.alloc o).alloc o').cell? ⟨(a'.add (k * 10)).block, (a'.add (k * 10)).off + 9, none⟩ = some (.int .i64 x'.r.it.m.unt) := fun o o' => Lib.cell?_alloc_some _ (Lib.cell?_alloc_some _ r9)
                        have HNP : Hid (¬ x.pl = x'.pl → ¬ Que.mk nm du dp sq tg (is.map ItR.it) (hs.map HlR.pl) = Que.mk nm du dp sq tg (is'.map ItR.it) (hs'.map HlR.pl)) := Lib.hid (fun h e => h (by
                          have h2 : hs.map HlR.pl = hs'.map HlR.pl := (by injection e)
                          have h3 := congrArg (fun l => l[k]?) h2
                          simp only [List.getElem?_map, HXX.out, HXX'.out, Option.map_some, Option.some.injEq] at h3
                          exact h3))
                        have OK0 := Lib.hid ((HH.out.below HB.out).2 x (List.mem_of_getElem? HXX.out))
                        have OK0' := Lib.hid ((HH'.out.below HB.out).2 x' (List.mem_of_getElem? HXX'.out))
                        obtain ⟨WA, hWA⟩ : ∃ W, W = ((wr.alloc (.cells #[.int .i64 x.tag, .int .i64 x.conn, .int .i64 x.sub, .int .i64 x.r.it.seq, .bool x.r.it.again, .string x.r.it.m.top, .string x.r.it.m.body, .slice x.r.pa x.r.it.m.ps.length x.r.pc, .bool x.r.it.m.dur, .int .i64 x.r.it.m.unt] 46)).alloc (.cells #[.int .i64 x'.tag, .int .i64 x'.conn, .int .i64 x'.sub, .int .i64 x'.r.it.seq, .bool x'.r.it.again, .string x'.r.it.m.top, .string x'.r.it.m.body, .slice x'.r.pa x'.r.it.m.ps.length x'.r.pc, .bool x'.r.it.m.dur, .int .i64 x'.r.it.m.unt] 46)).drew := ⟨_, rfl⟩
                        have HWA := Lib.hid hWA
                        have vA : ∀ j u, (#[.int .i64 x.tag, .int .i64 x.conn, .int .i64 x.sub, .int .i64 x.r.it.seq, .bool x.r.it.again, .string x.r.it.m.top, .string x.r.it.m.body, .slice x.r.pa x.r.it.m.ps.length x.r.pc, .bool x.r.it.m.dur, .int .i64 x.r.it.m.unt] : Array Value)[j]? = some u → WA.cell? ⟨wr.heap.size, j, none⟩ = some u := fun j u hj => by rw [hWA]; exact Lib.cell?_alloc_some _ (new_cell j u hj)
                        have hzA : (wr.alloc (.cells #[.int .i64 x.tag, .int .i64 x.conn, .int .i64 x.sub, .int .i64 x.r.it.seq, .bool x.r.it.again, .string x.r.it.m.top, .string x.r.it.m.body, .slice x.r.pa x.r.it.m.ps.length x.r.pc, .bool x.r.it.m.dur, .int .i64 x.r.it.m.unt] 46)).heap.size = wr.heap.size + 1 := by show (Array.push _ _).size = _; simp
                        have uA : ∀ j u, (#[.int .i64 x'.tag, .int .i64 x'.conn, .int .i64 x'.sub, .int .i64 x'.r.it.seq, .bool x'.r.it.again, .string x'.r.it.m.top, .string x'.r.it.m.body, .slice x'.r.pa x'.r.it.m.ps.length x'.r.pc, .bool x'.r.it.m.dur, .int .i64 x'.r.it.m.unt] : Array Value)[j]? = some u → WA.cell? ⟨wr.heap.size + 1, j, none⟩ = some u := fun j u hj => by rw [hWA, ← hzA]; exact new_cell j u hj
                        have bwA : Below W.heap.size W WA := by rw [hWA]; exact ((BR.out.alloc BR.out.size _).alloc (by have := BR.out.size; rw [hzA]; omega) _).drew
                        have vA0 := vA 0 _ rfl
                        have uA0 := uA 0 _ rfl
                        have vA1 := vA 1 _ rfl
                        have uA1 := uA 1 _ rfl
                        have vA2 := vA 2 _ rfl
                        have uA2 := uA 2 _ rfl
                        have vA3 := vA 3 _ rfl
                        have uA3 := uA 3 _ rfl
                        have vA4 := vA 4 _ rfl
                        have uA4 := uA 4 _ rfl
                        have vA5 := vA 5 _ rfl
                        have uA5 := uA 5 _ rfl
                        have vA6 := vA 6 _ rfl
                        have uA6 := uA 6 _ rfl
                        have vA7 := vA 7 _ rfl
                        have uA7 := uA 7 _ rfl
                        have vA8 := vA 8 _ rfl
                        have uA8 := uA 8 _ rfl
                        have vA9 := vA 9 _ rfl
                        have uA9 := uA 9 _ rfl
                        have BWA := Lib.hid bwA
                        have BXA := Lib.hid (HB.out.trans (bwA.mono HB.out.size))
                        have OKA := Lib.hid (OK0.out.below bwA)
                        have OKA' := Lib.hid (OK0'.out.below bwA)
                        clear hWA vA uA bwA hzA
                        obtain ⟨WB, hWB⟩ : ∃ W, W = ((wr.alloc (.cells #[.int .i64 x'.tag, .int .i64 x'.conn, .int .i64 x'.sub, .int .i64 x'.r.it.seq, .bool x'.r.it.again, .string x'.r.it.m.top, .string x'.r.it.m.body, .slice x'.r.pa x'.r.it.m.ps.length x'.r.pc, .bool x'.r.it.m.dur, .int .i64 x'.r.it.m.unt] 46)).alloc (.cells #[.int .i64 x.tag, .int .i64 x.conn, .int .i64 x.sub, .int .i64 x.r.it.seq, .bool x.r.it.again, .string x.r.it.m.top, .string x.r.it.m.body, .slice x.r.pa x.r.it.m.ps.length x.r.pc, .bool x.r.it.m.dur, .int .i64 x.r.it.m.unt] 46)).drew := ⟨_, rfl⟩
                        have HWB := Lib.hid hWB
                        have vB : ∀ j u, (#[.int .i64 x'.tag, .int .i64 x'.conn, .int .i64 x'.sub, .int .i64 x'.r.it.seq, .bool x'.r.it.again, .string x'.r.it.m.top, .string x'.r.it.m.body, .slice x'.r.pa x'.r.it.m.ps.length x'.r.pc, .bool x'.r.it.m.dur, .int .i64 x'.r.it.m.unt] : Array Value)[j]? = some u → WB.cell? ⟨wr.heap.size, j, none⟩ = some u := fun j u hj => by rw [hWB]; exact Lib.cell?_alloc_some _ (new_cell j u hj)
                        have hzB : (wr.alloc (.cells #[.int .i64 x'.tag, .int .i64 x'.conn, .int .i64 x'.sub, .int .i64 x'.r.it.seq, .bool x'.r.it.again, .string x'.r.it.m.top, .string x'.r.it.m.body, .slice x'.r.pa x'.r.it.m.ps.length x'.r.pc, .bool x'.r.it.m.dur, .int .i64 x'.r.it.m.unt] 46)).heap.size = wr.heap.size + 1 := by show (Array.push _ _).size = _; simp
                        have uB : ∀ j u, (#[.int .i64 x.tag, .int .i64 x.conn, .int .i64 x.sub, .int .i64 x.r.it.seq, .bool x.r.it.again, .string x.r.it.m.top, .string x.r.it.m.body, .slice x.r.pa x.r.it.m.ps.length x.r.pc, .bool x.r.it.m.dur, .int .i64 x.r.it.m.unt] : Array Value)[j]? = some u → WB.cell? ⟨wr.heap.size + 1, j, none⟩ = some u := fun j u hj => by rw [hWB, ← hzB]; exact new_cell j u hj
                        have bwB : Below W.heap.size W WB := by rw [hWB]; exact ((BR.out.alloc BR.out.size _).alloc (by have := BR.out.size; rw [hzB]; omega) _).drew
                        have vB0 := vB 0 _ rfl
                        have uB0 := uB 0 _ rfl
                        have vB1 := vB 1 _ rfl
                        have uB1 := uB 1 _ rfl
                        have vB2 := vB 2 _ rfl
                        have uB2 := uB 2 _ rfl
                        have vB3 := vB 3 _ rfl
                        have uB3 := uB 3 _ rfl
                        have vB4 := vB 4 _ rfl
                        have uB4 := uB 4 _ rfl
                        have vB5 := vB 5 _ rfl
                        have uB5 := uB 5 _ rfl
                        have vB6 := vB 6 _ rfl
                        have uB6 := uB 6 _ rfl
                        have vB7 := vB 7 _ rfl
                        have uB7 := uB 7 _ rfl
                        have vB8 := vB 8 _ rfl
                        have uB8 := uB 8 _ rfl
                        have vB9 := vB 9 _ rfl
                        have uB9 := uB 9 _ rfl
                        have BWB := Lib.hid bwB
                        have BXB := Lib.hid (HB.out.trans (bwB.mono HB.out.size))
                        have OKB := Lib.hid (OK0.out.below bwB)
                        have OKB' := Lib.hid (OK0'.out.below bwB)
                        clear hWB vB uB bwB hzB
                        go_region
                        all_goals clear e50 e51 e60 e61 eq00 eq01 er00 er01 eq10 eq11 er10 er11 eq20 eq21 er20 er21 eq30 eq31 er30 er31 eq40 eq41 er40 er41 eq50 eq51 er50 er51 eq60 eq61 er60 er61 eq70 eq71 er70 er71 eq80 eq81 er80 er81 eq90 eq91 er90 er91 g5 g5' q0 r0 q1 r1 q2 r2 q3 r3 q4 r4 q5 r5 q6 r6 q7 r7 q8 r8 q9 r9
                        all_goals first
                          | (rw [← HWA.out]
                             by_cases ht : x.tag = x'.tag
                             · by_cases hcn : x.conn = x'.conn
                               · by_cases hsb : x.sub = x'.sub
                                 · by_cases hit : x.r.it = x'.r.it
                                   · have hSM := sameItem_t (w := WA) x.r x'.r OKA.out OKA'.out hit
                                     have hnx : (hs.take (k + 1)).map HlR.pl = (hs'.take (k + 1)).map HlR.pl := by rw [List.take_add_one, List.take_add_one, HXX.out, HXX'.out, List.map_append, List.map_append, HT.out]; simp [HlR.pl, ht, hcn, hsb, hit]
                                     have HNX := Lib.hid hnx
                                     have HSM := Lib.hid hSM
                                     clear hnx hSM hit
                                     go_wp2_with fail
                                     refine (HSM.out).mono ?_
                                     rintro e w4 ⟨rfl, b4⟩
                                     have B4 := Lib.hid (BWA.out.trans (b4.mono BWA.out.size))
                                     have hwk : wrap64 ((k : Int) + 1) = (k : Int) + 1 := by have := HLT.out; have h63 : hs.length ≤ 9223372036854775807 := (by obtain ⟨_, _, he, h1, h2, _⟩ := HH.out.1; omega); unfold wrap64; omega
                                     clear b4
                                     go_wp2_with fail
                                     go_roundw
                                     case rel => exact ⟨k + 1, by have := HLT.out; omega, by go_num, HNX, B4.out⟩
                                     case measure => first | exact round_less1 HLT.out | (rw [hwk]; exact round_less1 HLT.out)
                                   · have hSM := sameItem_f (w := WA) x.r x'.r OKA.out OKA'.out hit
                                     have HNE := Lib.hid (HNP.out (fun e => hit (congrArg Hld.it e)))
                                     have HSM := Lib.hid hSM
                                     clear hSM hit
                                     go_wp2_with fail
                                     refine (HSM.out).mono ?_
                                     rintro e w4 ⟨rfl, b4⟩
                                     go_wp2_with fail
                                     go_ret
                                     exact ⟨false, rfl, ⟨(fun h => by cases h), fun h => absurd h HNE.out⟩, BXA.out.trans (b4.mono BXA.out.size)⟩
                                 · have HNE := Lib.hid (HNP.out (fun e => hsb (congrArg Hld.sub e)))
                                   go_wp2_with fail
                                   go_ret
                                   exact ⟨false, rfl, ⟨(fun h => by cases h), fun h => absurd h HNE.out⟩, BXA.out⟩
                               · have HNE := Lib.hid (HNP.out (fun e => hcn (congrArg Hld.conn e)))
                                 go_wp2_with fail
                                 go_ret
                                 exact ⟨false, rfl, ⟨(fun h => by cases h), fun h => absurd h HNE.out⟩, BXA.out⟩
                             · have HNE := Lib.hid (HNP.out (fun e => ht (congrArg Hld.tag e)))
                               go_wp2_with fail
                               go_ret
                               exact ⟨false, rfl, ⟨(fun h => by cases h), fun h => absurd h HNE.out⟩, BXA.out⟩
                            )
                          | (rw [← HWB.out]
                             by_cases ht : x.tag = x'.tag
                             · by_cases hcn : x.conn = x'.conn
                               · by_cases hsb : x.sub = x'.sub
                                 · by_cases hit : x.r.it = x'.r.it
                                   · have hSM := sameItem_t (w := WB) x.r x'.r OKB.out OKB'.out hit
                                     have hnx : (hs.take (k + 1)).map HlR.pl = (hs'.take (k + 1)).map HlR.pl := by rw [List.take_add_one, List.take_add_one, HXX.out, HXX'.out, List.map_append, List.map_append, HT.out]; simp [HlR.pl, ht, hcn, hsb, hit]
                                     have HNX := Lib.hid hnx
                                     have HSM := Lib.hid hSM
                                     clear hnx hSM hit
                                     go_wp2_with fail
                                     refine (HSM.out).mono ?_
                                     rintro e w4 ⟨rfl, b4⟩
                                     have B4 := Lib.hid (BWB.out.trans (b4.mono BWB.out.size))
                                     have hwk : wrap64 ((k : Int) + 1) = (k : Int) + 1 := by have := HLT.out; have h63 : hs.length ≤ 9223372036854775807 := (by obtain ⟨_, _, he, h1, h2, _⟩ := HH.out.1; omega); unfold wrap64; omega
                                     clear b4
                                     go_wp2_with fail
                                     go_roundw
                                     case rel => exact ⟨k + 1, by have := HLT.out; omega, by go_num, HNX, B4.out⟩
                                     case measure => first | exact round_less1 HLT.out | (rw [hwk]; exact round_less1 HLT.out)
                                   · have hSM := sameItem_f (w := WB) x.r x'.r OKB.out OKB'.out hit
                                     have HNE := Lib.hid (HNP.out (fun e => hit (congrArg Hld.it e)))
                                     have HSM := Lib.hid hSM
                                     clear hSM hit
                                     go_wp2_with fail
                                     refine (HSM.out).mono ?_
                                     rintro e w4 ⟨rfl, b4⟩
                                     go_wp2_with fail
                                     go_ret
                                     exact ⟨false, rfl, ⟨(fun h => by cases h), fun h => absurd h HNE.out⟩, BXB.out.trans (b4.mono BXB.out.size)⟩
                                 · have HNE := Lib.hid (HNP.out (fun e => hsb (congrArg Hld.sub e)))
                                   go_wp2_with fail
                                   go_ret
                                   exact ⟨false, rfl, ⟨(fun h => by cases h), fun h => absurd h HNE.out⟩, BXB.out⟩
                               · have HNE := Lib.hid (HNP.out (fun e => hcn (congrArg Hld.conn e)))
                                 go_wp2_with fail
                                 go_ret
                                 exact ⟨false, rfl, ⟨(fun h => by cases h), fun h => absurd h HNE.out⟩, BXB.out⟩
                             · have HNE := Lib.hid (HNP.out (fun e => ht (congrArg Hld.tag e)))
                               go_wp2_with fail
                               go_ret
                               exact ⟨false, rfl, ⟨(fun h => by cases h), fun h => absurd h HNE.out⟩, BXB.out⟩
                            )

                      
                      · have hk2 : k = hs.length := by omega
                        subst hk2
                        have hHT : hs.map HlR.pl = hs'.map HlR.pl := by
                          have := HT.out
                          rwa [List.take_of_length_le (Nat.le_refl _), List.take_of_length_le (by have := HLH.out; omega)] at this
                        have HHT := Lib.hid hHT
                        clear hlt hHT b2
                        go_wp2_with fail
                        go_ret
                        exact ⟨true, rfl, ⟨fun _ => by rw [HIT.out, HHT.out], fun _ => rfl⟩, B2.out⟩
              · have HNE : Hid (¬ Que.mk nm du dp sq tg (is.map ItR.it) (hs.map HlR.pl) = Que.mk nm du dp sq tg (is'.map ItR.it) (hs'.map HlR.pl)) := Lib.hid (fun e => hlh (by have h2 : hs.map HlR.pl = hs'.map HlR.pl := (by injection e); simpa using congrArg List.length h2))
                have hlhb : ((hs.length : Int) == (hs'.length : Int)) = false := beq_eq_false_iff_ne.2 (by omega)
                have hlhc : (hs.length == hs'.length) = false := beq_eq_false_iff_ne.2 hlh
                go_enter Tryd.func14, Tryd.ntmps14
                go_upto_region 1 with fail
                rw [← HWW.out]
                have x0 := HZ.out 0 _ rfl
                have y0 := HZ'.out 0 _ rfl
                have x1 := HZ.out 1 _ rfl
                have y1 := HZ'.out 1 _ rfl
                have x2 := HZ.out 2 _ rfl
                have y2 := HZ'.out 2 _ rfl
                have x3 := HZ.out 3 _ rfl
                have y3 := HZ'.out 3 _ rfl
                have x4 := HZ.out 4 _ rfl
                have y4 := HZ'.out 4 _ rfl
                have x5 := HZ.out 5 _ rfl
                have y5 := HZ'.out 5 _ rfl
                have x6 := HZ.out 6 _ rfl
                have y6 := HZ'.out 6 _ rfl
                clear hlh
                rw [← HLI.out] at y5
                go_wp2_with fail; go_ret; exact ⟨false, rfl, ⟨(fun h => by cases h), fun h => absurd h HNE.out⟩, HB.out⟩
            · have HNE : Hid (¬ Que.mk nm du dp sq tg (is.map ItR.it) (hs.map HlR.pl) = Que.mk nm du dp sq tg (is'.map ItR.it) (hs'.map HlR.pl)) := Lib.hid (fun e => hli (by have h2 : is.map ItR.it = is'.map ItR.it := (by injection e); simpa using congrArg List.length h2))
              have hlib : ((is.length : Int) == (is'.length : Int)) = false := beq_eq_false_iff_ne.2 (by omega)
              have hlic : (is.length == is'.length) = false := beq_eq_false_iff_ne.2 hli
              go_enter Tryd.func14, Tryd.ntmps14
              go_upto_region 1 with fail
              rw [← HWW.out]
              have x0 := HZ.out 0 _ rfl
              have y0 := HZ'.out 0 _ rfl
              have x1 := HZ.out 1 _ rfl
              have y1 := HZ'.out 1 _ rfl
              have x2 := HZ.out 2 _ rfl
              have y2 := HZ'.out 2 _ rfl
              have x3 := HZ.out 3 _ rfl
              have y3 := HZ'.out 3 _ rfl
              have x4 := HZ.out 4 _ rfl
              have y4 := HZ'.out 4 _ rfl
              have x5 := HZ.out 5 _ rfl
              have y5 := HZ'.out 5 _ rfl
              have x6 := HZ.out 6 _ rfl
              have y6 := HZ'.out 6 _ rfl
              clear hli
              go_wp2_with fail; go_ret; exact ⟨false, rfl, ⟨(fun h => by cases h), fun h => absurd h HNE.out⟩, HB.out⟩
          · have HNE : Hid (¬ Que.mk nm du dp sq tg (is.map ItR.it) (hs.map HlR.pl) = Que.mk nm du dp sq tg' (is'.map ItR.it) (hs'.map HlR.pl)) := Lib.hid (fun e => htg (by injection e))
            have htgb : (tg == tg') = false := beq_eq_false_iff_ne.2 htg
            go_enter Tryd.func14, Tryd.ntmps14
            go_upto_region 1 with fail
            rw [← HWW.out]
            have x0 := HZ.out 0 _ rfl
            have y0 := HZ'.out 0 _ rfl
            have x1 := HZ.out 1 _ rfl
            have y1 := HZ'.out 1 _ rfl
            have x2 := HZ.out 2 _ rfl
            have y2 := HZ'.out 2 _ rfl
            have x3 := HZ.out 3 _ rfl
            have y3 := HZ'.out 3 _ rfl
            have x4 := HZ.out 4 _ rfl
            have y4 := HZ'.out 4 _ rfl
            have x5 := HZ.out 5 _ rfl
            have y5 := HZ'.out 5 _ rfl
            have x6 := HZ.out 6 _ rfl
            have y6 := HZ'.out 6 _ rfl
            go_wp2_with fail; go_ret; exact ⟨false, rfl, ⟨(fun h => by cases h), fun h => absurd h HNE.out⟩, HB.out⟩
        · have HNE : Hid (¬ Que.mk nm du dp sq tg (is.map ItR.it) (hs.map HlR.pl) = Que.mk nm du dp sq' tg' (is'.map ItR.it) (hs'.map HlR.pl)) := Lib.hid (fun e => hsq (by injection e))
          have hsqb : (sq == sq') = false := beq_eq_false_iff_ne.2 hsq
          go_enter Tryd.func14, Tryd.ntmps14
          go_upto_region 1 with fail
          rw [← HWW.out]
          have x0 := HZ.out 0 _ rfl
          have y0 := HZ'.out 0 _ rfl
          have x1 := HZ.out 1 _ rfl
          have y1 := HZ'.out 1 _ rfl
          have x2 := HZ.out 2 _ rfl
          have y2 := HZ'.out 2 _ rfl
          have x3 := HZ.out 3 _ rfl
          have y3 := HZ'.out 3 _ rfl
          have x4 := HZ.out 4 _ rfl
          have y4 := HZ'.out 4 _ rfl
          have x5 := HZ.out 5 _ rfl
          have y5 := HZ'.out 5 _ rfl
          have x6 := HZ.out 6 _ rfl
          have y6 := HZ'.out 6 _ rfl
          go_wp2_with fail; go_ret; exact ⟨false, rfl, ⟨(fun h => by cases h), fun h => absurd h HNE.out⟩, HB.out⟩
      · have HNE : Hid (¬ Que.mk nm du dp sq tg (is.map ItR.it) (hs.map HlR.pl) = Que.mk nm du dp' sq' tg' (is'.map ItR.it) (hs'.map HlR.pl)) := Lib.hid (fun e => hdp (by injection e))
        have hdpb : (dp == dp') = false := beq_eq_false_iff_ne.2 hdp
        go_enter Tryd.func14, Tryd.ntmps14
        go_upto_region 1 with fail
        rw [← HWW.out]
        have x0 := HZ.out 0 _ rfl
        have y0 := HZ'.out 0 _ rfl
        have x1 := HZ.out 1 _ rfl
        have y1 := HZ'.out 1 _ rfl
        have x2 := HZ.out 2 _ rfl
        have y2 := HZ'.out 2 _ rfl
        have x3 := HZ.out 3 _ rfl
        have y3 := HZ'.out 3 _ rfl
        have x4 := HZ.out 4 _ rfl
        have y4 := HZ'.out 4 _ rfl
        have x5 := HZ.out 5 _ rfl
        have y5 := HZ'.out 5 _ rfl
        have x6 := HZ.out 6 _ rfl
        have y6 := HZ'.out 6 _ rfl
        go_wp2_with fail; go_ret; exact ⟨false, rfl, ⟨(fun h => by cases h), fun h => absurd h HNE.out⟩, HB.out⟩
    · have HNE : Hid (¬ Que.mk nm du dp sq tg (is.map ItR.it) (hs.map HlR.pl) = Que.mk nm du' dp' sq' tg' (is'.map ItR.it) (hs'.map HlR.pl)) := Lib.hid (fun e => hdu (by injection e))
      cases du <;> cases du' <;> (first | (exact absurd rfl hdu) | (clear hdu; go_enter Tryd.func14, Tryd.ntmps14; go_upto_region 1 with fail; rw [← HWW.out]; have x0 := HZ.out 0 _ rfl; have y0 := HZ'.out 0 _ rfl; have x1 := HZ.out 1 _ rfl; have y1 := HZ'.out 1 _ rfl; have x2 := HZ.out 2 _ rfl; have y2 := HZ'.out 2 _ rfl; have x3 := HZ.out 3 _ rfl; have y3 := HZ'.out 3 _ rfl; have x4 := HZ.out 4 _ rfl; have y4 := HZ'.out 4 _ rfl; have x5 := HZ.out 5 _ rfl; have y5 := HZ'.out 5 _ rfl; have x6 := HZ.out 6 _ rfl; have y6 := HZ'.out 6 _ rfl; go_wp2_with fail; go_ret; exact ⟨false, rfl, ⟨(fun h => by cases h), fun h => absurd h HNE.out⟩, HB.out⟩))
  · have HNE : Hid (¬ Que.mk nm du dp sq tg (is.map ItR.it) (hs.map HlR.pl) = Que.mk nm' du' dp' sq' tg' (is'.map ItR.it) (hs'.map HlR.pl)) := Lib.hid (fun e => hnm (by injection e))
    have hnmb := str_ne hnm
    go_enter Tryd.func14, Tryd.ntmps14
    go_upto_region 1 with fail
    rw [← HWW.out]
    have x0 := HZ.out 0 _ rfl
    have y0 := HZ'.out 0 _ rfl
    have x1 := HZ.out 1 _ rfl
    have y1 := HZ'.out 1 _ rfl
    have x2 := HZ.out 2 _ rfl
    have y2 := HZ'.out 2 _ rfl
    have x3 := HZ.out 3 _ rfl
    have y3 := HZ'.out 3 _ rfl
    have x4 := HZ.out 4 _ rfl
    have y4 := HZ'.out 4 _ rfl
    have x5 := HZ.out 5 _ rfl
    have y5 := HZ'.out 5 _ rfl
    have x6 := HZ.out 6 _ rfl
    have y6 := HZ'.out 6 _ rfl
    clear hnm
    go_wp2_with fail; go_ret; exact ⟨false, rfl, ⟨(fun h => by cases h), fun h => absurd h HNE.out⟩, HB.out⟩
end Go.Proofs.YtelhpdnclmpgoaaDoor
