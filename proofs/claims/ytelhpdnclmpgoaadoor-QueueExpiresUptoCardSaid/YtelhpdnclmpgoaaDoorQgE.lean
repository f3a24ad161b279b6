/- Layer 10: QueueExpires. (Printed by gen/qge.py.) -/
import Derived.Test.YtelhpdnclmpgoaaDoorQgA
import Derived.Test.YtelhpdnclmpgoaaDoorQeW
import Derived.Test.YtelhpdnclmpgoaaDoorQfA
import Derived.Test.YtelhpdnclmpgoaaDoorQcB
namespace Go.Proofs.YtelhpdnclmpgoaaDoor
open Go Go.RowKit Go.Sort
open Go.ChangeShapes Go.WideShapes Go.Deep
set_option linter.unusedSimpArgs false
set_option linter.unusedVariables false

set_option maxRecDepth 100000 in
set_option maxHeartbeats 8000000 in
theorem queueExpires_c {w : World} (q : Que) (r : QuR) (now later : Int) (hq : QuIn w q r) (hf : q.fit) (hg : GM w) :
    Calls Tryd.prog 5 #[.agg #[.string q.name, .bool q.dur, .int .i64 q.depth, .int .i64 q.seq, .int .i64 q.tag, .slice r.ia r.is.length r.ic, .slice r.ha r.hs.length r.hc], .int .i64 now, .int .i64 later] w fun e w' => e = .returned (.bool true) ∧ Below w.heap.size w w' := by
  obtain ⟨W, hW⟩ : ∃ W, W = (w.alloc (.cells #[.string q.name, .bool q.dur, .int .i64 q.depth, .int .i64 q.seq, .int .i64 q.tag, .slice r.ia r.is.length r.ic, .slice r.ha r.hs.length r.hc] 25)) := ⟨_, rfl⟩
  have b0 : Below w.heap.size w W := by rw [hW]; exact ((Below.refl _ _).alloc (Nat.le_refl _) _)
  have hsz : W.heap.size = w.heap.size + 1 := by rw [hW]; simp
  have r0 : W.heap[w.heap.size]? = some (.cells #[.string q.name, .bool q.dur, .int .i64 q.depth, .int .i64 q.seq, .int .i64 q.tag, .slice r.ia r.is.length r.ic, .slice r.ha r.hs.length r.hc] 25 (0, 0)) := by rw [hW]; exact alloc_at _ _ _ (by simp)
  have HR0 : Hid (∀ w1, Below W.heap.size W w1 → w1.heap[w.heap.size]? = some (.cells #[.string q.name, .bool q.dur, .int .i64 q.depth, .int .i64 q.seq, .int .i64 q.tag, .slice r.ia r.is.length r.ic, .slice r.ha r.hs.length r.hc] 25 (0, 0))) := Lib.hid (fun w1 b => (b.block (w.heap.size) (by omega)).trans r0)
  have HZ0 : Hid (∀ w1, Below W.heap.size W w1 → ∀ j u, (#[.string q.name, .bool q.dur, .int .i64 q.depth, .int .i64 q.seq, .int .i64 q.tag, .slice r.ia r.is.length r.ic, .slice r.ha r.hs.length r.hc] : Array Value)[j]? = some u → w1.cell? ⟨w.heap.size, j, none⟩ = some u) := Lib.hid (fun w1 b j u hj => by simp only [World.cell?, HR0.out w1 b]; exact hj)
  have HF0 : Hid (∀ w1, Below W.heap.size W w1 → ∀ j, w1.frozen? ⟨w.heap.size, j, none⟩ = false) := Lib.hid (fun w1 b j => frozen_of_row _ _ j _ _ (HR0.out w1 b))
  have HWK := Lib.hid (wakes_c (hg.below b0))
  have h1 : q.items.length = r.is.length := by rw [← hq.ip, List.length_map]
  have h2 : q.held.length = r.hs.length := by rw [← hq.hp, List.length_map]
  have HQ := Lib.hid (hq.below b0)
  have HGM := Lib.hid (hg.below b0)
  have HLO := Lib.hid (fun w1 (b : Below W.heap.size W w1) => long_c (w := w1) q r ((hq.below b0).below b) (by have := hf.il; omega) (by have := hf.hl; omega))
  have HGD := Lib.hid (fun w1 (b : Below W.heap.size W w1) => goodQ_c (w := w1) q r ((hq.below b0).below b) hf ((hg.below b0).below b))
  have HF := Lib.hid hf
  have HB0 := Lib.hid b0
  have HW := Lib.hid hW
  have HL1 := Lib.hid h1
  have HL2 := Lib.hid h2
  clear hW b0 hsz r0 hq hf hg h1 h2
  go_enter Tryd.func5, Tryd.ntmps5
  go_upto_region 1 with fail
  rw [← HW.out]
  go_wp2_with fail
  refine (HWK.out).mono ?_
  rintro e w1 ⟨rfl, b1⟩
  have B1 := Lib.hid b1
  clear b1 HWK
  have z0 := HZ0.out w1 B1.out 0 _ rfl
  have z1 := HZ0.out w1 B1.out 1 _ rfl
  have z2 := HZ0.out w1 B1.out 2 _ rfl
  have z3 := HZ0.out w1 B1.out 3 _ rfl
  have z4 := HZ0.out w1 B1.out 4 _ rfl
  have z5 := HZ0.out w1 B1.out 5 _ rfl
  have z6 := HZ0.out w1 B1.out 6 _ rfl
  go_wp2_with fail
  refine (HLO.out w1 B1.out).mono ?_
  rintro e w2 ⟨b, rfl, b2⟩
  have B2 := Lib.hid (B1.out.trans (b2.mono B1.out.size))
  clear b2 z0 z1 z2 z3 z4 z5 z6
  cases b with
  | true =>
    go_wp2_with fail
    go_ret
    exact ⟨rfl, HB0.out.trans (B2.out.mono HB0.out.size)⟩
  | false =>
    have z0 := HZ0.out w2 B2.out 0 _ rfl
    have z1 := HZ0.out w2 B2.out 1 _ rfl
    have z2 := HZ0.out w2 B2.out 2 _ rfl
    have z3 := HZ0.out w2 B2.out 3 _ rfl
    have z4 := HZ0.out w2 B2.out 4 _ rfl
    have z5 := HZ0.out w2 B2.out 5 _ rfl
    have z6 := HZ0.out w2 B2.out 6 _ rfl
    go_wp2_with fail
    refine (HGD.out w2 B2.out).mono ?_
    rintro e w3 ⟨rfl, b3⟩
    have B3 := Lib.hid (B2.out.trans (b3.mono B2.out.size))
    clear b3 z0 z1 z2 z3 z4 z5 z6
    cases hgd : goodQ q with
    | false =>
      go_wp2_with fail
      go_ret
      exact ⟨rfl, HB0.out.trans (B3.out.mono HB0.out.size)⟩
    | true =>
      by_cases hlt : later < now
      · go_wp2_with fail
        go_ret
        exact ⟨rfl, HB0.out.trans (B3.out.mono HB0.out.size)⟩
      · skip
        have HNL : Hid (now ≤ later) := Lib.hid (by omega)
        have HGQ := Lib.hid hgd
        have H64 : Hid (q.items.length + q.held.length ≤ 64) := Lib.hid (goodQ_len hgd)
        have HE1 := Lib.hid (exp_step (w := w3) q r now (HQ.out.below B3.out) HF.out (HGM.out.below B3.out) hgd)
        have HGX := Lib.hid (goodQ_exp hgd now)
        have HXX : Hid (expP (expP q now) later = expP q later) := Lib.hid (exp_exp HNL.out)
        have HST := Lib.hid (exp_stay hgd now)
        have HFX := Lib.hid (exp_fit HF.out now)
        obtain ⟨qx, hqx⟩ : ∃ qx, qx = expP q now := ⟨_, rfl⟩
        rw [← hqx] at HE1 HGX HXX HST HFX
        have HIX : Hid (∀ x ∈ qx.items, gone now x = false) := Lib.hid (fun x hx => by rw [hqx] at hx; have h := (List.mem_filter.1 hx).2; cases hg : gone now x with | false => rfl | true => rw [hg] at h; exact absurd h (by decide))
        have HLX : Hid (qx.held = q.held) := Lib.hid (by rw [hqx]; rfl)
        clear hqx hgd
        have z0 := HZ0.out w3 B3.out 0 _ rfl
        have z1 := HZ0.out w3 B3.out 1 _ rfl
        have z2 := HZ0.out w3 B3.out 2 _ rfl
        have z3 := HZ0.out w3 B3.out 3 _ rfl
        have z4 := HZ0.out w3 B3.out 4 _ rfl
        have z5 := HZ0.out w3 B3.out 5 _ rfl
        have z6 := HZ0.out w3 B3.out 6 _ rfl
        go_wp2_with fail
        refine (HE1.out).mono ?_
        rintro e w4 ⟨r1, rfl, hq1, b4⟩
        clear z0 z1 z2 z3 z4 z5 z6 HE1
        have B4 := Lib.hid (B3.out.trans (b4.mono B3.out.size))
        go_upto_region 6 with fail
        obtain ⟨V1, hV1⟩ : ∃ V1, V1 = w4.alloc (.cells #[.string qx.name, .bool qx.dur, .int .i64 qx.depth, .int .i64 qx.seq, .int .i64 qx.tag, .slice r1.ia r1.is.length r1.ic, .slice r1.ha r1.hs.length r1.hc] 25) := ⟨_, rfl⟩
        rw [← hV1]
        have c1 : Below w4.heap.size w4 V1 := by rw [hV1]; exact (Below.refl _ _).alloc (Nat.le_refl _) _
        have R1 : Hid (V1.heap[w4.heap.size]? = some (.cells #[.string qx.name, .bool qx.dur, .int .i64 qx.depth, .int .i64 qx.seq, .int .i64 qx.tag, .slice r1.ia r1.is.length r1.ic, .slice r1.ha r1.hs.length r1.hc] 25 (0, 0))) := Lib.hid (by rw [hV1]; exact heap_alloc_new w4 _)
        have Q1 := Lib.hid (hq1.below c1)
        have B5 := Lib.hid (B4.out.trans (c1.mono B4.out.size))
        have HE2 := Lib.hid (exp_step (w := V1) q r later (HQ.out.below B5.out) HF.out (HGM.out.below B5.out) HGQ.out)
        obtain ⟨qy, hqy⟩ : ∃ qy, qy = expP q later := ⟨_, rfl⟩
        rw [← hqy] at HE2 HXX
        have HYX : Hid (qy.items.length ≤ qx.items.length) := Lib.hid (by rw [← HXX.out]; exact List.length_filter_le _ _)
        clear hV1 hq1 b4 c1 hqy
        have z0 := HZ0.out V1 B5.out 0 _ rfl
        have z1 := HZ0.out V1 B5.out 1 _ rfl
        have z2 := HZ0.out V1 B5.out 2 _ rfl
        have z3 := HZ0.out V1 B5.out 3 _ rfl
        have z4 := HZ0.out V1 B5.out 4 _ rfl
        have z5 := HZ0.out V1 B5.out 5 _ rfl
        have z6 := HZ0.out V1 B5.out 6 _ rfl
        go_wp2_with fail
        refine (HE2.out).mono ?_
        rintro e w5 ⟨r2, rfl, hq2, b6⟩
        clear z0 z1 z2 z3 z4 z5 z6 HE2
        go_upto_region 7 with fail
        obtain ⟨V2, hV2⟩ : ∃ V2, V2 = w5.alloc (.cells #[.string qy.name, .bool qy.dur, .int .i64 qy.depth, .int .i64 qy.seq, .int .i64 qy.tag, .slice r2.ia r2.is.length r2.ic, .slice r2.ha r2.hs.length r2.hc] 25) := ⟨_, rfl⟩
        rw [← hV2]
        have c2 : Below w5.heap.size w5 V2 := by rw [hV2]; exact (Below.refl _ _).alloc (Nat.le_refl _) _
        have d2 : Below V1.heap.size V1 V2 := b6.trans (c2.mono b6.size)
        have R2 : Hid (V2.heap[w5.heap.size]? = some (.cells #[.string qy.name, .bool qy.dur, .int .i64 qy.depth, .int .i64 qy.seq, .int .i64 qy.tag, .slice r2.ia r2.is.length r2.ic, .slice r2.ha r2.hs.length r2.hc] 25 (0, 0))) := Lib.hid (by rw [hV2]; exact heap_alloc_new w5 _)
        have Q2 := Lib.hid (hq2.below c2)
        have D2 := Lib.hid d2
        have B6 := Lib.hid (B5.out.trans (d2.mono B5.out.size))
        have Q1' := Lib.hid (Q1.out.below d2)
        have R1' := Lib.hid ((d2.block _ (Array.getElem?_eq_some_iff.1 R1.out).1).trans R1.out)
        have he3 := exp_step (w := V2) qx r1 later Q1'.out HFX.out (HGM.out.below B6.out) HGX.out
        rw [HXX.out] at he3
        have HE3 := Lib.hid he3
        clear hV2 hq2 b6 c2 d2 he3 Q1 R1
        have x0 : V2.cell? ⟨w4.heap.size, 0, none⟩ = some (.string qx.name) := by simp only [World.cell?, R1'.out]; rfl
        have x1 : V2.cell? ⟨w4.heap.size, 1, none⟩ = some (.bool qx.dur) := by simp only [World.cell?, R1'.out]; rfl
        have x2 : V2.cell? ⟨w4.heap.size, 2, none⟩ = some (.int .i64 qx.depth) := by simp only [World.cell?, R1'.out]; rfl
        have x3 : V2.cell? ⟨w4.heap.size, 3, none⟩ = some (.int .i64 qx.seq) := by simp only [World.cell?, R1'.out]; rfl
        have x4 : V2.cell? ⟨w4.heap.size, 4, none⟩ = some (.int .i64 qx.tag) := by simp only [World.cell?, R1'.out]; rfl
        have x5 : V2.cell? ⟨w4.heap.size, 5, none⟩ = some (.slice r1.ia r1.is.length r1.ic) := by simp only [World.cell?, R1'.out]; rfl
        have x6 : V2.cell? ⟨w4.heap.size, 6, none⟩ = some (.slice r1.ha r1.hs.length r1.hc) := by simp only [World.cell?, R1'.out]; rfl
        go_wp2_with fail
        refine (HE3.out).mono ?_
        rintro e w6 ⟨r3, rfl, hq3, b7⟩
        clear x0 x1 x2 x3 x4 x5 x6 HE3
        go_upto_region 8 with fail
        obtain ⟨V3, hV3⟩ : ∃ V3, V3 = w6.alloc (.cells #[.string qy.name, .bool qy.dur, .int .i64 qy.depth, .int .i64 qy.seq, .int .i64 qy.tag, .slice r3.ia r3.is.length r3.ic, .slice r3.ha r3.hs.length r3.hc] 25) := ⟨_, rfl⟩
        rw [← hV3]
        have c3 : Below w6.heap.size w6 V3 := by rw [hV3]; exact (Below.refl _ _).alloc (Nat.le_refl _) _
        have d3 : Below V2.heap.size V2 V3 := b7.trans (c3.mono b7.size)
        have R3 : Hid (V3.heap[w6.heap.size]? = some (.cells #[.string qy.name, .bool qy.dur, .int .i64 qy.depth, .int .i64 qy.seq, .int .i64 qy.tag, .slice r3.ia r3.is.length r3.ic, .slice r3.ha r3.hs.length r3.hc] 25 (0, 0))) := Lib.hid (by rw [hV3]; exact heap_alloc_new w6 _)
        have Q3 := Lib.hid (hq3.below c3)
        have B7 := Lib.hid (B6.out.trans (d3.mono B6.out.size))
        have R1'' := Lib.hid ((d3.block _ (Array.getElem?_eq_some_iff.1 R1'.out).1).trans R1'.out)
        have R2'' := Lib.hid ((d3.block _ (Array.getElem?_eq_some_iff.1 R2.out).1).trans R2.out)
        have Q1'' := Lib.hid (Q1'.out.below d3)
        have HY2 : Hid (r2.is.length = qy.items.length) := Lib.hid (by have e1 := congrArg List.length Q2.out.ip; rw [List.length_map] at e1; exact e1)
        have HSM := Lib.hid (sameQ_c (w := V3) qy qy r2 r3 (Q2.out.below d3) Q3.out)
        clear hV3 hq3 b7 c3 d3 R1' R2 Q1' Q2 Q3
        have y0 : V3.cell? ⟨w5.heap.size, 0, none⟩ = some (.string qy.name) := by simp only [World.cell?, R2''.out]; rfl
        have y1 : V3.cell? ⟨w5.heap.size, 1, none⟩ = some (.bool qy.dur) := by simp only [World.cell?, R2''.out]; rfl
        have y2 : V3.cell? ⟨w5.heap.size, 2, none⟩ = some (.int .i64 qy.depth) := by simp only [World.cell?, R2''.out]; rfl
        have y3 : V3.cell? ⟨w5.heap.size, 3, none⟩ = some (.int .i64 qy.seq) := by simp only [World.cell?, R2''.out]; rfl
        have y4 : V3.cell? ⟨w5.heap.size, 4, none⟩ = some (.int .i64 qy.tag) := by simp only [World.cell?, R2''.out]; rfl
        have y5 : V3.cell? ⟨w5.heap.size, 5, none⟩ = some (.slice r2.ia r2.is.length r2.ic) := by simp only [World.cell?, R2''.out]; rfl
        have y6 : V3.cell? ⟨w5.heap.size, 6, none⟩ = some (.slice r2.ha r2.hs.length r2.hc) := by simp only [World.cell?, R2''.out]; rfl
        have v0 : V3.cell? ⟨w6.heap.size, 0, none⟩ = some (.string qy.name) := by simp only [World.cell?, R3.out]; rfl
        have v1 : V3.cell? ⟨w6.heap.size, 1, none⟩ = some (.bool qy.dur) := by simp only [World.cell?, R3.out]; rfl
        have v2 : V3.cell? ⟨w6.heap.size, 2, none⟩ = some (.int .i64 qy.depth) := by simp only [World.cell?, R3.out]; rfl
        have v3 : V3.cell? ⟨w6.heap.size, 3, none⟩ = some (.int .i64 qy.seq) := by simp only [World.cell?, R3.out]; rfl
        have v4 : V3.cell? ⟨w6.heap.size, 4, none⟩ = some (.int .i64 qy.tag) := by simp only [World.cell?, R3.out]; rfl
        have v5 : V3.cell? ⟨w6.heap.size, 5, none⟩ = some (.slice r3.ia r3.is.length r3.ic) := by simp only [World.cell?, R3.out]; rfl
        have v6 : V3.cell? ⟨w6.heap.size, 6, none⟩ = some (.slice r3.ha r3.hs.length r3.hc) := by simp only [World.cell?, R3.out]; rfl
        go_wp2_with fail
        refine (HSM.out).mono ?_
        rintro e w7 ⟨b, rfl, hb, b8⟩
        obtain rfl : b = true := by first | exact hb.2 rfl | exact hb.2 trivial
        have B8 := Lib.hid (B7.out.trans (b8.mono B7.out.size))
        have R1 := Lib.hid ((b8.block _ (Array.getElem?_eq_some_iff.1 R1''.out).1).trans R1''.out)
        have R2 := Lib.hid ((b8.block _ (Array.getElem?_eq_some_iff.1 R2''.out).1).trans R2''.out)
        have Q1 := Lib.hid (Q1''.out.below b8)
        clear hb b8 y0 y1 y2 y3 y4 y5 y6 v0 v1 v2 v3 v4 v5 v6 R1'' R2'' R3 Q1'' HSM
        have hlh : r1.hs.length = r.hs.length := by
          have e1 := congrArg List.length Q1.out.hp
          rw [List.length_map, HLX.out, HL2.out] at e1
          exact e1
        have hl1 : r1.is.length = qx.items.length := by
          have e1 := congrArg List.length Q1.out.ip
          rw [List.length_map] at e1
          exact e1
        have z6 := HZ0.out w7 B8.out 6 _ rfl
        have x6 : w7.cell? ⟨w4.heap.size, 6, none⟩ = some (.slice r1.ha r.hs.length r1.hc) := by simp only [World.cell?, R1.out, ← hlh]; rfl
        have x5 : w7.cell? ⟨w4.heap.size, 5, none⟩ = some (.slice r1.ia r1.is.length r1.ic) := by simp only [World.cell?, R1.out]; rfl
        have y5 : w7.cell? ⟨w5.heap.size, 5, none⟩ = some (.slice r2.ia r2.is.length r2.ic) := by simp only [World.cell?, R2.out]; rfl
        have hl2 : ¬ (r1.is.length : Int) < (r2.is.length : Int) := by have := HYX.out; have := HY2.out; omega
        obtain ⟨ia, hia⟩ : ∃ ia, ia = r.ia := ⟨_, rfl⟩
        have HI7 : Hid (RIt w7 (.slice ia r.is.length r.ic) r.is) := Lib.hid (by rw [hia]; exact (HQ.out.below B8.out).items)
        have z5 : w7.cell? ⟨w.heap.size, 5, none⟩ = some (.slice ia r.is.length r.ic) := by rw [hia]; exact HZ0.out w7 B8.out 5 _ rfl
        obtain ⟨ia1, hia1⟩ : ∃ ia1, ia1 = r1.ia := ⟨_, rfl⟩
        have HI1 : Hid (RIt w7 (.slice ia1 r1.is.length r1.ic) r1.is) := Lib.hid (by rw [hia1]; exact Q1.out.items)
        have HX5 : Hid (∀ wr, Below w7.heap.size w7 wr → wr.cell? ⟨w4.heap.size, 5, none⟩ = some (.slice ia1 r1.is.length r1.ic)) := Lib.hid (fun wr b => by rw [hia1]; have h := (b.block _ (Array.getElem?_eq_some_iff.1 R1.out).1).trans R1.out; simp only [World.cell?, h]; rfl)
        have HM1 : Hid (∀ x ∈ r1.is, gone now x.it = false) := Lib.hid (fun x hx => HIX.out x.it (by rw [← Q1.out.ip]; exact List.mem_map.2 ⟨x, hx, rfl⟩))
        have HIP := Lib.hid (HQ.out.ip)
        have HL1X := Lib.hid hl1
        have hnl : ¬ later < now := by have := HNL.out; omega
        clear hia hia1 hlh
        go_wp2_with fail
        clear x5 x6 y5 z5 z6 hl1 hl2
        go_loopw [13, 87] (fun t i wr => ∃ (k c : Nat), k ≤ r.is.length ∧ i = .int .i64 k ∧ t = .int .i64 c ∧ Hid (c = ((q.items.take k).filter (stayP now)).length) ∧ Hid (Below w7.heap.size w7 wr)) (fun _ i _ => r.is.length - (intOf i).toNat)
        case atStart => exact ⟨0, 0, Nat.zero_le _, rfl, rfl, Lib.hid rfl, Lib.hid (Below.refl _ _)⟩
        case round =>
          obtain ⟨k, c, hk, rfl, rfl, HCN, HB⟩ := hrel
          by_cases hlt : k < r.is.length
          · obtain ⟨x, hx⟩ : ∃ x, r.is[k]? = some x := ⟨_, List.getElem?_eq_getElem hlt⟩
            obtain ⟨ok, a, rfl, q0, q1, q2, q3, q4, q5, q6⟩ := items_lit (HI7.out.below HB.out) k x hx
            have hkI : (k : Int) < (r.is.length : Int) := by omega
            have HLT := Lib.hid hlt
            have HWK1 := Lib.hid (wk1 k _ hlt (by have := HL1.out; have := H64.out; omega))
            have hqx : q.items[k]? = some x.it := by rw [← HIP.out, List.getElem?_map, hx]; rfl
            have hck : c ≤ k := by rw [HCN.out]; exact Nat.le_trans (List.length_filter_le _ _) (by rw [List.length_take]; omega)
            have HCS := Lib.hid (cnt_step (p := stayP now) hqx)
            have HWC := Lib.hid (wk1 c (k + 1) (by omega) (by have := HL1.out; have := H64.out; omega))
            have HB3 : Hid (∀ o, Below w7.heap.size w7 (wr.alloc o)) := Lib.hid (fun o => HB.out.alloc HB.out.size o)
            clear hx hlt hk ok hqx hck
            by_cases hu : x.it.m.unt = 0
            · have hu' : (x.it.m.unt == 0) = true := by rw [hu]; rfl
              have HC2 : Hid (c + 1 = ((q.items.take (k + 1)).filter (stayP now)).length) := Lib.hid (by rw [HCS.out, ← HCN.out, if_pos (by unfold stayP; rw [hu']; rfl)])
              go_wp2_with fail
              go_roundw
              case rel => exact ⟨k + 1, c + 1, HLT.out, by first | rfl | (rw [HWK1.out]; rfl), by first | rfl | (rw [HWC.out]; rfl), HC2, Lib.hid (HB3.out _)⟩
              case measure => first | exact round_less1 HLT.out | (rw [HWK1.out]; exact round_less1 HLT.out)
            · have hu' : (x.it.m.unt == 0) = false := by rw [beq_eq_false_iff_ne]; exact hu
              by_cases hv : now < x.it.m.unt
              · have HC2 : Hid (c + 1 = ((q.items.take (k + 1)).filter (stayP now)).length) := Lib.hid (by rw [HCS.out, ← HCN.out, if_pos (by unfold stayP; rw [hu', decide_eq_true hv]; rfl)])
                go_wp2_with fail
                go_roundw
                case rel => exact ⟨k + 1, c + 1, HLT.out, by first | rfl | (rw [HWK1.out]; rfl), by first | rfl | (rw [HWC.out]; rfl), HC2, Lib.hid (HB3.out _)⟩
                case measure => first | exact round_less1 HLT.out | (rw [HWK1.out]; exact round_less1 HLT.out)
              · have HC2 : Hid (c = ((q.items.take (k + 1)).filter (stayP now)).length) := Lib.hid (by rw [HCS.out, ← HCN.out, if_neg (by unfold stayP; rw [hu', decide_eq_false hv]; decide)]; rfl)
                go_wp2_with fail
                go_roundw
                case rel => exact ⟨k + 1, c, HLT.out, by first | rfl | (rw [HWK1.out]; rfl), rfl, HC2, Lib.hid (HB3.out _)⟩
                case measure => first | exact round_less1 HLT.out | (rw [HWK1.out]; exact round_less1 HLT.out)
          · have hk2 : k = r.is.length := by omega
            subst hk2
            have HCE : Hid (c = r1.is.length) := Lib.hid (by rw [HCN.out, HL1X.out, HST.out, List.take_of_length_le (by rw [HL1.out]; exact Nat.le_refl _)])
            have x5 := HX5.out wr HB.out
            clear hlt hk HCN
            go_wp2_with fail
            clear x5
            have HB9 := HB
            clear HB
            go_loopw [108] (fun i wr => ∃ (k : Nat), k ≤ r1.is.length ∧ i = .int .i64 k ∧ Hid (Below w7.heap.size w7 wr)) (fun i _ => r1.is.length - (intOf i).toNat)
            case atStart => exact ⟨0, Nat.zero_le _, rfl, HB9⟩
            case round =>
              clear HB9
              obtain ⟨k, hk, rfl, HB⟩ := hrel
              by_cases hlt : k < r1.is.length
              · obtain ⟨x, hx⟩ : ∃ x, r1.is[k]? = some x := ⟨_, List.getElem?_eq_getElem hlt⟩
                obtain ⟨ok, a, rfl, q0, q1, q2, q3, q4, q5, q6⟩ := items_lit (HI1.out.below HB.out) k x hx
                have hkI : (k : Int) < (r1.is.length : Int) := by omega
                have HLT := Lib.hid hlt
                have HWK1 := Lib.hid (wk1 k _ hlt (by have := HL1X.out; have h2 : qx.items.length ≤ q.items.length := (by rw [HST.out]; exact List.length_filter_le _ _); have := H64.out; omega))
                have HB3 := Lib.hid (HB.out.alloc HB.out.size (.cells #[.int .i64 x.it.seq, .bool x.it.again, .string x.it.m.top, .string x.it.m.body, .slice x.pa x.it.m.ps.length x.pc, .bool x.it.m.dur, .int .i64 x.it.m.unt] 44))
                have hgn := HM1.out x (List.mem_of_getElem? hx)
                clear hx hlt hk ok
                by_cases hu : 0 < x.it.m.unt
                · have hv : ¬ x.it.m.unt ≤ now := fun h => by unfold gone at hgn; rw [decide_eq_true hu, decide_eq_true h] at hgn; exact absurd hgn (by decide)
                  clear hgn
                  go_wp2_with fail
                  go_roundw
                  case rel => exact ⟨k + 1, HLT.out, by first | rfl | (rw [HWK1.out]; rfl), HB3⟩
                  case measure => first | exact round_less1 HLT.out | (rw [HWK1.out]; exact round_less1 HLT.out)
                · clear hgn
                  go_wp2_with fail
                  go_roundw
                  case rel => exact ⟨k + 1, HLT.out, by first | rfl | (rw [HWK1.out]; rfl), HB3⟩
                  case measure => first | exact round_less1 HLT.out | (rw [HWK1.out]; exact round_less1 HLT.out)
              · have hk2 : k = r1.is.length := by omega
                subst hk2
                have x5 := HX5.out wr HB.out
                have hce : ((c : Int) == (r1.is.length : Int)) = true := by rw [HCE.out]; exact beq_self_eq_true _
                clear hlt hk
                go_wp2_with fail
                go_ret
                exact ⟨by first | rfl | (rw [hce]), HB0.out.trans ((B8.out.trans (HB.out.mono B8.out.size)).mono HB0.out.size)⟩
end Go.Proofs.YtelhpdnclmpgoaaDoor
