/- Layer 10: QueueReleases. (Printed by gen/qgr.py.) -/
import Derived.Test.YtelhpdnclmpgoaaDoorQhA
import Derived.Test.YtelhpdnclmpgoaaDoorQeW
import Derived.Test.YtelhpdnclmpgoaaDoorQfA
import Derived.Test.YtelhpdnclmpgoaaDoorQcB
import Derived.Test.YtelhpdnclmpgoaaDoorQcD
import Derived.Deep.RegionHeld3
namespace Go.Proofs.YtelhpdnclmpgoaaDoor
open Go Go.RowKit Go.Sort
open Go.ChangeShapes Go.WideShapes Go.Deep
set_option linter.unusedSimpArgs false
set_option linter.unusedVariables false

theorem cntH_step {l : List Hld} {p : Hld → Bool} {k : Nat} {x : Hld} (hx : l[k]? = some x) : ((l.take (k + 1)).filter p).length = ((l.take k).filter p).length + (if p x = true then 1 else 0) := by
  rw [List.take_add_one, hx, List.filter_append, List.length_append]
  congr 1
  cases hp : p x <;> simp [hp]
set_option maxRecDepth 100000 in
set_option maxHeartbeats 4000000 in
theorem queueReleases_c {w : World} (q : Que) (r : QuR) (cn : Int) (hq : QuIn w q r) (hf : q.fit) (hg : GM w) :
    Calls Tryd.prog 4 #[.agg #[.string q.name, .bool q.dur, .int .i64 q.depth, .int .i64 q.seq, .int .i64 q.tag, .slice r.ia r.is.length r.ic, .slice r.ha r.hs.length r.hc], .int .i64 cn] w fun e w' => e = .returned (.bool true) ∧ Below w.heap.size w w' := by
  obtain ⟨W, hW⟩ : ∃ W, W = (w.alloc (.cells #[.string q.name, .bool q.dur, .int .i64 q.depth, .int .i64 q.seq, .int .i64 q.tag, .slice r.ia r.is.length r.ic, .slice r.ha r.hs.length r.hc] 25)) := ⟨_, rfl⟩
  have b0 : Below w.heap.size w W := by rw [hW]; exact ((Below.refl _ _).alloc (Nat.le_refl _) _)
  have hsz : W.heap.size = w.heap.size + 1 := by rw [hW]; simp
  have r0 : W.heap[w.heap.size]? = some (.cells #[.string q.name, .bool q.dur, .int .i64 q.depth, .int .i64 q.seq, .int .i64 q.tag, .slice r.ia r.is.length r.ic, .slice r.ha r.hs.length r.hc] 25 (0, 0)) := by rw [hW]; exact alloc_at _ _ _ (by simp)
  have HR0 : Hid (∀ w1, Below W.heap.size W w1 → w1.heap[w.heap.size]? = some (.cells #[.string q.name, .bool q.dur, .int .i64 q.depth, .int .i64 q.seq, .int .i64 q.tag, .slice r.ia r.is.length r.ic, .slice r.ha r.hs.length r.hc] 25 (0, 0))) := Lib.hid (fun w1 b => (b.block (w.heap.size) (by omega)).trans r0)
  have HZ0 : Hid (∀ w1, Below W.heap.size W w1 → ∀ j u, (#[.string q.name, .bool q.dur, .int .i64 q.depth, .int .i64 q.seq, .int .i64 q.tag, .slice r.ia r.is.length r.ic, .slice r.ha r.hs.length r.hc] : Array Value)[j]? = some u → w1.cell? ⟨w.heap.size, j, none⟩ = some u) := Lib.hid (fun w1 b j u hj => by simp only [World.cell?, HR0.out w1 b]; exact hj)
  have HF0 : Hid (∀ w1, Below W.heap.size W w1 → ∀ j, w1.frozen? ⟨w.heap.size, j, none⟩ = false) := Lib.hid (fun w1 b j => frozen_of_row _ _ j _ _ (HR0.out w1 b))
  have HWK := Lib.hid (wakes_c (hg.below b0))
  have h1 : q.items.length = r.is.length := by rw [← hq.ip, List.length_map]
  have h2 : q.held.length = r.hs.length := by rw [← hq.hp, List.length_map]
  have HQ := Lib.hid (hq.below b0)
  have HGM := Lib.hid (hg.below b0)
  have HLO := Lib.hid (fun w1 (b : Below W.heap.size W w1) => long_c (w := w1) q r ((hq.below b0).below b) (by have := hf.il; omega) (by have := hf.hl; omega))
  have HGD := Lib.hid (fun w1 (b : Below W.heap.size W w1) => goodQ_c (w := w1) q r ((hq.below b0).below b) hf ((hg.below b0).below b))
  have HF := Lib.hid hf
  have HB0 := Lib.hid b0
  have HW := Lib.hid hW
  have HL1 := Lib.hid h1
  have HL2 := Lib.hid h2
  clear hW b0 hsz r0 hq hf hg h1 h2
  go_enter Tryd.func4, Tryd.ntmps4
  go_upto_region 1 with fail
  rw [← HW.out]
  go_wp2_with fail
  refine (HWK.out).mono ?_
  rintro e w1 ⟨rfl, b1⟩
  have B1 := Lib.hid b1
  clear b1 HWK
  have z0 := HZ0.out w1 B1.out 0 _ rfl
  have z1 := HZ0.out w1 B1.out 1 _ rfl
  have z2 := HZ0.out w1 B1.out 2 _ rfl
  have z3 := HZ0.out w1 B1.out 3 _ rfl
  have z4 := HZ0.out w1 B1.out 4 _ rfl
  have z5 := HZ0.out w1 B1.out 5 _ rfl
  have z6 := HZ0.out w1 B1.out 6 _ rfl
  go_wp2_with fail
  refine (HLO.out w1 B1.out).mono ?_
  rintro e w2 ⟨b, rfl, b2⟩
  have B2 := Lib.hid (B1.out.trans (b2.mono B1.out.size))
  clear b2 z0 z1 z2 z3 z4 z5 z6
  cases b with
  | true =>
    go_wp2_with fail
    go_ret
    exact ⟨rfl, HB0.out.trans (B2.out.mono HB0.out.size)⟩
  | false =>
    have z0 := HZ0.out w2 B2.out 0 _ rfl
    have z1 := HZ0.out w2 B2.out 1 _ rfl
    have z2 := HZ0.out w2 B2.out 2 _ rfl
    have z3 := HZ0.out w2 B2.out 3 _ rfl
    have z4 := HZ0.out w2 B2.out 4 _ rfl
    have z5 := HZ0.out w2 B2.out 5 _ rfl
    have z6 := HZ0.out w2 B2.out 6 _ rfl
    go_wp2_with fail
    refine (HGD.out w2 B2.out).mono ?_
    rintro e w3 ⟨rfl, b3⟩
    have B3 := Lib.hid (B2.out.trans (b3.mono B2.out.size))
    clear b3 z0 z1 z2 z3 z4 z5 z6
    cases hgd : goodQ q with
    | false =>
      go_wp2_with fail
      go_ret
      exact ⟨rfl, HB0.out.trans (B3.out.mono HB0.out.size)⟩
    | true =>
      have HGQ := Lib.hid hgd
      have H64 : Hid (q.items.length + q.held.length ≤ 64) := Lib.hid (goodQ_len hgd)
      have HE1 := Lib.hid (rel_step (w := w3) q r cn (-1) (HQ.out.below B3.out) HF.out (HGM.out.below B3.out) hgd)
      have HGX := Lib.hid (goodQ_rel hgd cn (-1)).1
      have HNX := Lib.hid (goodQ_rel hgd cn (-1)).2
      have HXX : Hid (relP (relP q cn (-1)) cn (-1) = relP q cn (-1)) := Lib.hid (rel_idem q cn)
      have HFX := Lib.hid (rel_fit HF.out hgd cn (-1))
      have HHX : Hid ((relP q cn (-1)).held = q.held.filter (fun h => !(h.conn == cn))) := Lib.hid (by show (q.held.foldl (relOne cn (-1)) (q.items, [])).2 = _; rw [rel_held]; simp)
      have HMX : Hid (∀ h ∈ q.held, (h.conn == cn) = true → (⟨h.it.seq, true, h.it.m⟩ : Itm) ∈ (relP q cn (-1)).items) := Lib.hid (rel_mem cn q.held q.items []).2
      obtain ⟨qx, hqx⟩ : ∃ qx, qx = relP q cn (-1) := ⟨_, rfl⟩
      rw [← hqx] at HE1 HGX HNX HXX HFX HHX HMX
      clear hqx hgd
      have z0 := HZ0.out w3 B3.out 0 _ rfl
      have z1 := HZ0.out w3 B3.out 1 _ rfl
      have z2 := HZ0.out w3 B3.out 2 _ rfl
      have z3 := HZ0.out w3 B3.out 3 _ rfl
      have z4 := HZ0.out w3 B3.out 4 _ rfl
      have z5 := HZ0.out w3 B3.out 5 _ rfl
      have z6 := HZ0.out w3 B3.out 6 _ rfl
      go_wp2_with fail
      refine (HE1.out).mono ?_
      rintro e w4 ⟨r1, rfl, hq1, b4⟩
      clear z0 z1 z2 z3 z4 z5 z6 HE1
      have B4 := Lib.hid (B3.out.trans (b4.mono B3.out.size))
      go_upto_region 6 with fail
      obtain ⟨V1, hV1⟩ : ∃ V1, V1 = w4.alloc (.cells #[.string qx.name, .bool qx.dur, .int .i64 qx.depth, .int .i64 qx.seq, .int .i64 qx.tag, .slice r1.ia r1.is.length r1.ic, .slice r1.ha r1.hs.length r1.hc] 25) := ⟨_, rfl⟩
      rw [← hV1]
      have c1 : Below w4.heap.size w4 V1 := by rw [hV1]; exact (Below.refl _ _).alloc (Nat.le_refl _) _
      have R1 : Hid (V1.heap[w4.heap.size]? = some (.cells #[.string qx.name, .bool qx.dur, .int .i64 qx.depth, .int .i64 qx.seq, .int .i64 qx.tag, .slice r1.ia r1.is.length r1.ic, .slice r1.ha r1.hs.length r1.hc] 25 (0, 0))) := Lib.hid (by rw [hV1]; exact heap_alloc_new w4 _)
      have Q1 := Lib.hid (hq1.below c1)
      have B5 := Lib.hid (B4.out.trans (c1.mono B4.out.size))
      have he2 := rel_step (w := V1) qx r1 cn (-1) Q1.out HFX.out (HGM.out.below B5.out) HGX.out
      rw [HXX.out] at he2
      have HE2 := Lib.hid he2
      clear hV1 hq1 b4 c1 he2
      have x0 : V1.cell? ⟨w4.heap.size, 0, none⟩ = some (.string qx.name) := by simp only [World.cell?, R1.out]; rfl
      have x1 : V1.cell? ⟨w4.heap.size, 1, none⟩ = some (.bool qx.dur) := by simp only [World.cell?, R1.out]; rfl
      have x2 : V1.cell? ⟨w4.heap.size, 2, none⟩ = some (.int .i64 qx.depth) := by simp only [World.cell?, R1.out]; rfl
      have x3 : V1.cell? ⟨w4.heap.size, 3, none⟩ = some (.int .i64 qx.seq) := by simp only [World.cell?, R1.out]; rfl
      have x4 : V1.cell? ⟨w4.heap.size, 4, none⟩ = some (.int .i64 qx.tag) := by simp only [World.cell?, R1.out]; rfl
      have x5 : V1.cell? ⟨w4.heap.size, 5, none⟩ = some (.slice r1.ia r1.is.length r1.ic) := by simp only [World.cell?, R1.out]; rfl
      have x6 : V1.cell? ⟨w4.heap.size, 6, none⟩ = some (.slice r1.ha r1.hs.length r1.hc) := by simp only [World.cell?, R1.out]; rfl
      go_wp2_with fail
      refine (HE2.out).mono ?_
      rintro e w5 ⟨r2, rfl, hq2, b6⟩
      clear x0 x1 x2 x3 x4 x5 x6 HE2
      go_upto_region 7 with fail
      obtain ⟨V2, hV2⟩ : ∃ V2, V2 = w5.alloc (.cells #[.string qx.name, .bool qx.dur, .int .i64 qx.depth, .int .i64 qx.seq, .int .i64 qx.tag, .slice r2.ia r2.is.length r2.ic, .slice r2.ha r2.hs.length r2.hc] 25) := ⟨_, rfl⟩
      rw [← hV2]
      have c2 : Below w5.heap.size w5 V2 := by rw [hV2]; exact (Below.refl _ _).alloc (Nat.le_refl _) _
      have d2 : Below V1.heap.size V1 V2 := b6.trans (c2.mono b6.size)
      have R2 : Hid (V2.heap[w5.heap.size]? = some (.cells #[.string qx.name, .bool qx.dur, .int .i64 qx.depth, .int .i64 qx.seq, .int .i64 qx.tag, .slice r2.ia r2.is.length r2.ic, .slice r2.ha r2.hs.length r2.hc] 25 (0, 0))) := Lib.hid (by rw [hV2]; exact heap_alloc_new w5 _)
      have Q2 := Lib.hid (hq2.below c2)
      have B6 := Lib.hid (B5.out.trans (d2.mono B5.out.size))
      have Q1' := Lib.hid (Q1.out.below d2)
      have R1' := Lib.hid ((d2.block _ (Array.getElem?_eq_some_iff.1 R1.out).1).trans R1.out)
      have HZV : Hid (∀ w1, Below V2.heap.size V2 w1 → ∀ j u, (#[.string q.name, .bool q.dur, .int .i64 q.depth, .int .i64 q.seq, .int .i64 q.tag, .slice r.ia r.is.length r.ic, .slice r.ha r.hs.length r.hc] : Array Value)[j]? = some u → w1.cell? ⟨w.heap.size, j, none⟩ = some u) := Lib.hid (fun w1 b => HZ0.out w1 (B6.out.trans (b.mono B6.out.size)))
      have HXV : Hid (∀ w1, Below V2.heap.size V2 w1 → ∀ j u, (#[.string qx.name, .bool qx.dur, .int .i64 qx.depth, .int .i64 qx.seq, .int .i64 qx.tag, .slice r1.ia r1.is.length r1.ic, .slice r1.ha r1.hs.length r1.hc] : Array Value)[j]? = some u → w1.cell? ⟨w4.heap.size, j, none⟩ = some u) := Lib.hid (fun w1 b j u hj => by have h := (b.block _ (Array.getElem?_eq_some_iff.1 R1'.out).1).trans R1'.out; simp only [World.cell?, h]; exact hj)
      have HYV : Hid (∀ w1, Below V2.heap.size V2 w1 → ∀ j u, (#[.string qx.name, .bool qx.dur, .int .i64 qx.depth, .int .i64 qx.seq, .int .i64 qx.tag, .slice r2.ia r2.is.length r2.ic, .slice r2.ha r2.hs.length r2.hc] : Array Value)[j]? = some u → w1.cell? ⟨w5.heap.size, j, none⟩ = some u) := Lib.hid (fun w1 b j u hj => by have h := (b.block _ (Array.getElem?_eq_some_iff.1 R2.out).1).trans R2.out; simp only [World.cell?, h]; exact hj)
      have HG1 : Hid (∀ w1, Below V2.heap.size V2 w1 → Calls Tryd.prog 15 #[.agg #[.string qx.name, .bool qx.dur, .int .i64 qx.depth, .int .i64 qx.seq, .int .i64 qx.tag, .slice r1.ia r1.is.length r1.ic, .slice r1.ha r1.hs.length r1.hc]] w1 fun e w' => e = .returned (.bool true) ∧ Below w1.heap.size w1 w') := Lib.hid (fun w1 b => by have h := goodQ_c (w := w1) qx r1 (Q1'.out.below b) HFX.out ((HGM.out.below B6.out).below b); rw [HGX.out] at h; exact h)
      have HSM : Hid (∀ w1, Below V2.heap.size V2 w1 → Calls Tryd.prog 14 #[.agg #[.string qx.name, .bool qx.dur, .int .i64 qx.depth, .int .i64 qx.seq, .int .i64 qx.tag, .slice r1.ia r1.is.length r1.ic, .slice r1.ha r1.hs.length r1.hc], .agg #[.string qx.name, .bool qx.dur, .int .i64 qx.depth, .int .i64 qx.seq, .int .i64 qx.tag, .slice r2.ia r2.is.length r2.ic, .slice r2.ha r2.hs.length r2.hc]] w1 fun e w' => e = .returned (.bool true) ∧ Below w1.heap.size w1 w') := Lib.hid (fun w1 b => (sameQ_c (w := w1) qx qx r1 r2 (Q1'.out.below b) (Q2.out.below b)).mono fun e w' ⟨bb, h1, h2, h3⟩ => ⟨by rw [h1, h2.2 rfl], h3⟩)
      have hln1 : r1.is.length + r1.hs.length ≤ 64 := by
        have e1 := congrArg List.length Q1'.out.ip
        have e2 := congrArg List.length Q1'.out.hp
        rw [List.length_map] at e1 e2
        have := HNX.out; have := H64.out; omega
      obtain ⟨LN, hLN⟩ : ∃ LN : Int, LN = (q.items.length : Int) + q.held.length := ⟨_, rfl⟩
      have HN1 : Hid (∀ w1, Below V2.heap.size V2 w1 → Calls Tryd.prog 17 #[.agg #[.string qx.name, .bool qx.dur, .int .i64 qx.depth, .int .i64 qx.seq, .int .i64 qx.tag, .slice r1.ia r1.is.length r1.ic, .slice r1.ha r1.hs.length r1.hc]] w1 fun e w' => e = .returned (.int .i64 LN) ∧ Below w1.heap.size w1 w') := Lib.hid (fun w1 b => by have h := len_c (w := w1) qx r1 (Q1'.out.below b) (by omega); rw [show ((qx.items.length : Int) + qx.held.length) = LN by rw [hLN]; have := HNX.out; omega] at h; exact h)
      have HN0 : Hid (∀ w1, Below V2.heap.size V2 w1 → Calls Tryd.prog 17 #[.agg #[.string q.name, .bool q.dur, .int .i64 q.depth, .int .i64 q.seq, .int .i64 q.tag, .slice r.ia r.is.length r.ic, .slice r.ha r.hs.length r.hc]] w1 fun e w' => e = .returned (.int .i64 LN) ∧ Below w1.heap.size w1 w') := Lib.hid (fun w1 b => by have h := len_c (w := w1) q r ((HQ.out.below B6.out).below b) (by have := HL1.out; have := HL2.out; have := H64.out; omega); rw [← hLN] at h; exact h)
      clear hV2 hq2 b6 c2 d2 Q1 R1 hln1 hLN
      have B : Hid (Below V2.heap.size V2 V2.drew) := Lib.hid (Below.refl _ _).drew
      have z0 := HZV.out V2.drew B.out 0 _ rfl
      have z1 := HZV.out V2.drew B.out 1 _ rfl
      have z2 := HZV.out V2.drew B.out 2 _ rfl
      have z3 := HZV.out V2.drew B.out 3 _ rfl
      have z4 := HZV.out V2.drew B.out 4 _ rfl
      have z5 := HZV.out V2.drew B.out 5 _ rfl
      have z6 := HZV.out V2.drew B.out 6 _ rfl
      have x0 := HXV.out V2.drew B.out 0 _ rfl
      have x1 := HXV.out V2.drew B.out 1 _ rfl
      have x2 := HXV.out V2.drew B.out 2 _ rfl
      have x3 := HXV.out V2.drew B.out 3 _ rfl
      have x4 := HXV.out V2.drew B.out 4 _ rfl
      have x5 := HXV.out V2.drew B.out 5 _ rfl
      have x6 := HXV.out V2.drew B.out 6 _ rfl
      have y0 := HYV.out V2.drew B.out 0 _ rfl
      have y1 := HYV.out V2.drew B.out 1 _ rfl
      have y2 := HYV.out V2.drew B.out 2 _ rfl
      have y3 := HYV.out V2.drew B.out 3 _ rfl
      have y4 := HYV.out V2.drew B.out 4 _ rfl
      have y5 := HYV.out V2.drew B.out 5 _ rfl
      have y6 := HYV.out V2.drew B.out 6 _ rfl
      go_region_held3 (fun w' => w'.cell? ⟨w.heap.size, 0, none⟩ = some (.string q.name) ∧ w'.cell? ⟨w.heap.size, 1, none⟩ = some (.bool q.dur) ∧ w'.cell? ⟨w.heap.size, 2, none⟩ = some (.int .i64 q.depth) ∧ w'.cell? ⟨w.heap.size, 3, none⟩ = some (.int .i64 q.seq) ∧ w'.cell? ⟨w.heap.size, 4, none⟩ = some (.int .i64 q.tag) ∧ w'.cell? ⟨w.heap.size, 5, none⟩ = some (.slice r.ia r.is.length r.ic) ∧ w'.cell? ⟨w.heap.size, 6, none⟩ = some (.slice r.ha r.hs.length r.hc) ∧ w'.cell? ⟨w4.heap.size, 0, none⟩ = some (.string qx.name) ∧ w'.cell? ⟨w4.heap.size, 1, none⟩ = some (.bool qx.dur) ∧ w'.cell? ⟨w4.heap.size, 2, none⟩ = some (.int .i64 qx.depth) ∧ w'.cell? ⟨w4.heap.size, 3, none⟩ = some (.int .i64 qx.seq) ∧ w'.cell? ⟨w4.heap.size, 4, none⟩ = some (.int .i64 qx.tag) ∧ w'.cell? ⟨w4.heap.size, 5, none⟩ = some (.slice r1.ia r1.is.length r1.ic) ∧ w'.cell? ⟨w4.heap.size, 6, none⟩ = some (.slice r1.ha r1.hs.length r1.hc) ∧ w'.cell? ⟨w5.heap.size, 0, none⟩ = some (.string qx.name) ∧ w'.cell? ⟨w5.heap.size, 1, none⟩ = some (.bool qx.dur) ∧ w'.cell? ⟨w5.heap.size, 2, none⟩ = some (.int .i64 qx.depth) ∧ w'.cell? ⟨w5.heap.size, 3, none⟩ = some (.int .i64 qx.seq) ∧ w'.cell? ⟨w5.heap.size, 4, none⟩ = some (.int .i64 qx.tag) ∧ w'.cell? ⟨w5.heap.size, 5, none⟩ = some (.slice r2.ia r2.is.length r2.ic) ∧ w'.cell? ⟨w5.heap.size, 6, none⟩ = some (.slice r2.ha r2.hs.length r2.hc))
        (first | exact ⟨z0, z1, z2, z3, z4, z5, z6, x0, x1, x2, x3, x4, x5, x6, y0, y1, y2, y3, y4, y5, y6⟩ | go_keep)
        (first
          | (go_at_call 15; refine (HG1.out _ B.out).mono ?_; rintro e wn ⟨rfl, bn⟩; have B : Hid (Below V2.heap.size V2 wn) := Lib.hid (B.out.trans (bn.mono B.out.size)); have z0 := HZV.out wn B.out 0 _ rfl; have z1 := HZV.out wn B.out 1 _ rfl; have z2 := HZV.out wn B.out 2 _ rfl; have z3 := HZV.out wn B.out 3 _ rfl; have z4 := HZV.out wn B.out 4 _ rfl; have z5 := HZV.out wn B.out 5 _ rfl; have z6 := HZV.out wn B.out 6 _ rfl; have x0 := HXV.out wn B.out 0 _ rfl; have x1 := HXV.out wn B.out 1 _ rfl; have x2 := HXV.out wn B.out 2 _ rfl; have x3 := HXV.out wn B.out 3 _ rfl; have x4 := HXV.out wn B.out 4 _ rfl; have x5 := HXV.out wn B.out 5 _ rfl; have x6 := HXV.out wn B.out 6 _ rfl; have y0 := HYV.out wn B.out 0 _ rfl; have y1 := HYV.out wn B.out 1 _ rfl; have y2 := HYV.out wn B.out 2 _ rfl; have y3 := HYV.out wn B.out 3 _ rfl; have y4 := HYV.out wn B.out 4 _ rfl; have y5 := HYV.out wn B.out 5 _ rfl; have y6 := HYV.out wn B.out 6 _ rfl; clear bn)
          | (go_at_call 14; refine (HSM.out _ B.out).mono ?_; rintro e wn ⟨rfl, bn⟩; have B : Hid (Below V2.heap.size V2 wn) := Lib.hid (B.out.trans (bn.mono B.out.size)); have z0 := HZV.out wn B.out 0 _ rfl; have z1 := HZV.out wn B.out 1 _ rfl; have z2 := HZV.out wn B.out 2 _ rfl; have z3 := HZV.out wn B.out 3 _ rfl; have z4 := HZV.out wn B.out 4 _ rfl; have z5 := HZV.out wn B.out 5 _ rfl; have z6 := HZV.out wn B.out 6 _ rfl; have x0 := HXV.out wn B.out 0 _ rfl; have x1 := HXV.out wn B.out 1 _ rfl; have x2 := HXV.out wn B.out 2 _ rfl; have x3 := HXV.out wn B.out 3 _ rfl; have x4 := HXV.out wn B.out 4 _ rfl; have x5 := HXV.out wn B.out 5 _ rfl; have x6 := HXV.out wn B.out 6 _ rfl; have y0 := HYV.out wn B.out 0 _ rfl; have y1 := HYV.out wn B.out 1 _ rfl; have y2 := HYV.out wn B.out 2 _ rfl; have y3 := HYV.out wn B.out 3 _ rfl; have y4 := HYV.out wn B.out 4 _ rfl; have y5 := HYV.out wn B.out 5 _ rfl; have y6 := HYV.out wn B.out 6 _ rfl; clear bn)
          | (go_at_call 17; refine (HN1.out _ B.out).mono ?_; rintro e wn ⟨rfl, bn⟩; have B : Hid (Below V2.heap.size V2 wn) := Lib.hid (B.out.trans (bn.mono B.out.size)); have z0 := HZV.out wn B.out 0 _ rfl; have z1 := HZV.out wn B.out 1 _ rfl; have z2 := HZV.out wn B.out 2 _ rfl; have z3 := HZV.out wn B.out 3 _ rfl; have z4 := HZV.out wn B.out 4 _ rfl; have z5 := HZV.out wn B.out 5 _ rfl; have z6 := HZV.out wn B.out 6 _ rfl; have x0 := HXV.out wn B.out 0 _ rfl; have x1 := HXV.out wn B.out 1 _ rfl; have x2 := HXV.out wn B.out 2 _ rfl; have x3 := HXV.out wn B.out 3 _ rfl; have x4 := HXV.out wn B.out 4 _ rfl; have x5 := HXV.out wn B.out 5 _ rfl; have x6 := HXV.out wn B.out 6 _ rfl; have y0 := HYV.out wn B.out 0 _ rfl; have y1 := HYV.out wn B.out 1 _ rfl; have y2 := HYV.out wn B.out 2 _ rfl; have y3 := HYV.out wn B.out 3 _ rfl; have y4 := HYV.out wn B.out 4 _ rfl; have y5 := HYV.out wn B.out 5 _ rfl; have y6 := HYV.out wn B.out 6 _ rfl; clear bn)
          | (go_at_call 17; refine (HN0.out _ B.out).mono ?_; rintro e wn ⟨rfl, bn⟩; have B : Hid (Below V2.heap.size V2 wn) := Lib.hid (B.out.trans (bn.mono B.out.size)); have z0 := HZV.out wn B.out 0 _ rfl; have z1 := HZV.out wn B.out 1 _ rfl; have z2 := HZV.out wn B.out 2 _ rfl; have z3 := HZV.out wn B.out 3 _ rfl; have z4 := HZV.out wn B.out 4 _ rfl; have z5 := HZV.out wn B.out 5 _ rfl; have z6 := HZV.out wn B.out 6 _ rfl; have x0 := HXV.out wn B.out 0 _ rfl; have x1 := HXV.out wn B.out 1 _ rfl; have x2 := HXV.out wn B.out 2 _ rfl; have x3 := HXV.out wn B.out 3 _ rfl; have x4 := HXV.out wn B.out 4 _ rfl; have x5 := HXV.out wn B.out 5 _ rfl; have x6 := HXV.out wn B.out 6 _ rfl; have y0 := HYV.out wn B.out 0 _ rfl; have y1 := HYV.out wn B.out 1 _ rfl; have y2 := HYV.out wn B.out 2 _ rfl; have y3 := HYV.out wn B.out 3 _ rfl; have y4 := HYV.out wn B.out 4 _ rfl; have y5 := HYV.out wn B.out 5 _ rfl; have y6 := HYV.out wn B.out 6 _ rfl; clear bn))
      obtain ⟨wc, hwc⟩ : ∃ wc, wc = wn := ⟨_, rfl⟩
      rw [← hwc] at B ⊢
      have B7 := B
      clear B hwc z0 z1 z2 z3 z4 z5 z6 x0 x1 x2 x3 x4 x5 x6 y0 y1 y2 y3 y4 y5 y6
      have B8 := Lib.hid (B6.out.trans (B7.out.mono B6.out.size))
      have hlh1 : r1.hs.length = qx.held.length := by
        have e2 := congrArg List.length Q1'.out.hp
        rw [List.length_map] at e2
        exact e2
      have hli1 : r1.is.length ≤ 64 := by
        have e1 := congrArg List.length Q1'.out.ip
        rw [List.length_map] at e1
        have := HNX.out; have := H64.out; omega
      obtain ⟨ha, hha⟩ : ∃ ha, ha = r.ha := ⟨_, rfl⟩
      have HI7 : Hid (RHl wc (.slice ha r.hs.length r.hc) r.hs) := Lib.hid (by rw [hha]; exact (HQ.out.below B8.out).held)
      have z6 : wc.cell? ⟨w.heap.size, 6, none⟩ = some (.slice ha r.hs.length r.hc) := by rw [hha]; exact HZ0.out wc B8.out 6 _ rfl
      obtain ⟨ia1, hia1⟩ : ∃ ia1, ia1 = r1.ia := ⟨_, rfl⟩
      have HI1 : Hid (RIt wc (.slice ia1 r1.is.length r1.ic) r1.is) := Lib.hid (by rw [hia1]; exact (Q1'.out.below B7.out).items)
      have HX5 : Hid (∀ w1, Below wc.heap.size wc w1 → w1.cell? ⟨w4.heap.size, 5, none⟩ = some (.slice ia1 r1.is.length r1.ic)) := Lib.hid (fun w1 b => by rw [hia1]; exact HXV.out w1 (B7.out.trans (b.mono B7.out.size)) 5 _ rfl)
      have HX6 : Hid (∀ w1, Below wc.heap.size wc w1 → w1.cell? ⟨w4.heap.size, 6, none⟩ = some (.slice r1.ha r1.hs.length r1.hc)) := Lib.hid (fun w1 b => HXV.out w1 (B7.out.trans (b.mono B7.out.size)) 6 _ rfl)
      have HHP := Lib.hid HQ.out.hp
      have HIP1 := Lib.hid Q1'.out.ip
      have HLH1 := Lib.hid hlh1
      have HLI1 := Lib.hid hli1
      clear hha hia1 hlh1 hli1
      go_wp2_with fail
      clear z6
      go_loopw [9, 63] (fun t i wr => ∃ (k c : Nat), k ≤ r.hs.length ∧ i = .int .i64 k ∧ t = .int .i64 c ∧ Hid (c = ((q.held.take k).filter (fun h => !(h.conn == cn))).length) ∧ Hid (Below wc.heap.size wc wr)) (fun _ i _ => r.hs.length - (intOf i).toNat)
      case atStart => exact ⟨0, 0, Nat.zero_le _, rfl, rfl, Lib.hid rfl, Lib.hid (Below.refl _ _)⟩
      case round =>
        obtain ⟨k, c, hk, rfl, rfl, HCN, HB⟩ := hrel
        by_cases hlt : k < r.hs.length
        · obtain ⟨x, hx⟩ : ∃ x, r.hs[k]? = some x := ⟨_, List.getElem?_eq_getElem hlt⟩
          obtain ⟨ok, a, rfl, q0, q1, q2, q3, q4, q5, q6, q7, q8, q9⟩ := held_lit (HI7.out.below HB.out) k x hx
          have hkI : (k : Int) < (r.hs.length : Int) := by omega
          have HLT := Lib.hid hlt
          have HWK1 := Lib.hid (wk1 k _ hlt (by have := HL2.out; have := H64.out; omega))
          have hqx : q.held[k]? = some x.pl := by rw [← HHP.out, List.getElem?_map, hx]; rfl
          have HMM : Hid ((x.conn == cn) = true → ∃ y ∈ r1.is, y.it = ⟨x.r.it.seq, true, x.r.it.m⟩) := Lib.hid (fun hc => by
            have h := HMX.out x.pl (List.mem_of_getElem? hqx) hc
            rw [← HIP1.out] at h
            obtain ⟨y, hy, he⟩ := List.mem_map.1 h
            exact ⟨y, hy, he⟩)
          have hck : c ≤ k := by rw [HCN.out]; exact Nat.le_trans (List.length_filter_le _ _) (by rw [List.length_take]; omega)
          have HCS := Lib.hid (cntH_step (p := fun h => !(h.conn == cn)) hqx)
          have HWC := Lib.hid (wk1 c (k + 1) (by omega) (by have := HL2.out; have := H64.out; omega))
          have HOK := Lib.hid ok
          have HB3 : Hid (∀ o, Below wc.heap.size wc (wr.alloc o)) := Lib.hid (fun o => HB.out.alloc HB.out.size o)
          clear hx hlt hk ok hqx hck
          cases hc : (x.conn == cn) with
          | false =>
            have HC2 : Hid (c + 1 = ((q.held.take (k + 1)).filter (fun h => !(h.conn == cn))).length) := Lib.hid (by rw [HCS.out, ← HCN.out, if_pos (by show (!(x.conn == cn)) = true; rw [hc]; rfl)])
            go_wp2_with fail
            go_roundw
            case rel => exact ⟨k + 1, c + 1, HLT.out, by first | rfl | (rw [HWK1.out]; rfl), by first | rfl | (rw [HWC.out]; rfl), HC2, Lib.hid (HB3.out _)⟩
            case measure => first | exact round_less1 HLT.out | (rw [HWK1.out]; exact round_less1 HLT.out)
          | true =>
            have HC2 : Hid (c = ((q.held.take (k + 1)).filter (fun h => !(h.conn == cn))).length) := Lib.hid (by rw [HCS.out, ← HCN.out, if_neg (by show ¬ (!(x.conn == cn)) = true; rw [hc]; decide)]; rfl)
            have HM := Lib.hid (HMM.out hc)
            have x5x : ∀ o, (wr.alloc o).cell? ⟨w4.heap.size, 5, none⟩ = some (.slice ia1 r1.is.length r1.ic) := fun o => HX5.out _ (HB3.out o)
            have hcb : (x.conn != cn) = false := by rw [bne, hc]; rfl
            go_upto_region 17 with fail
            clear hcb
            obtain ⟨W9, hW9⟩ : ∃ W9, W9 = wr.alloc (.cells #[.int .i64 x.tag, .int .i64 x.conn, .int .i64 x.sub, .int .i64 x.r.it.seq, .bool x.r.it.again, .string x.r.it.m.top, .string x.r.it.m.body, .slice x.r.pa x.r.it.m.ps.length x.r.pc, .bool x.r.it.m.dur, .int .i64 x.r.it.m.unt] 46) := ⟨_, rfl⟩
            rw [← hW9]
            have b9 : Below wr.heap.size wr W9 := by rw [hW9]; exact (Below.refl _ _).alloc (Nat.le_refl _) _
            have HR9 : Hid (W9.heap[wr.heap.size]? = some (.cells #[.int .i64 x.tag, .int .i64 x.conn, .int .i64 x.sub, .int .i64 x.r.it.seq, .bool x.r.it.again, .string x.r.it.m.top, .string x.r.it.m.body, .slice x.r.pa x.r.it.m.ps.length x.r.pc, .bool x.r.it.m.dur, .int .i64 x.r.it.m.unt] 46 (0, 0))) := Lib.hid (by rw [hW9]; exact heap_alloc_new wr _)
            have HB9 : Hid (Below wc.heap.size wc W9) := Lib.hid (HB.out.trans (b9.mono HB.out.size))
            have HOK9 := Lib.hid (HOK.out.below b9)
            clear hW9 b9 x5x hc HMM HCN HCS HWC HB3 q0 q1 q2 q3 q4 q5 q6 q7 q8 q9
            obtain ⟨K11, hK11⟩ : ∃ K, K = wr.heap.size := ⟨_, rfl⟩
            rw [← hK11] at HR9
            rw [← hK11]
            clear hK11
            go_loopw [12, 76] (fun f i wr => ∃ (j : Nat) (b : Bool), j ≤ r1.is.length ∧ i = .int .i64 j ∧ f = .bool b ∧ Hid (∀ y ∈ r1.is.take j, y.it = ⟨x.r.it.seq, true, x.r.it.m⟩ → b = true) ∧ Hid (Below W9.heap.size W9 wr)) (fun _ i _ => r1.is.length - (intOf i).toNat)
            case atStart => exact ⟨0, false, Nat.zero_le _, rfl, rfl, Lib.hid (fun y hy => by simp at hy), Lib.hid (Below.refl _ _)⟩
            case round =>
              obtain ⟨j, b, hj, rfl, rfl, HT, HBI⟩ := hrel
              by_cases hjl : j < r1.is.length
              · obtain ⟨y, hy⟩ : ∃ y, r1.is[j]? = some y := ⟨_, List.getElem?_eq_getElem hjl⟩
                obtain ⟨oky, a1, rfl, p0, p1, p2, p3, p4, p5, p6⟩ := items_lit (HI1.out.below (HB9.out.trans (HBI.out.mono HB9.out.size))) j y hy
                have hjI : (j : Int) < (r1.is.length : Int) := by omega
                have HJT := Lib.hid hjl
                have HWK2 := Lib.hid (wk1 j _ hjl (by have := HLI1.out; omega))
                have HBJ : Hid (∀ o, Below W9.heap.size W9 (wr.alloc o)) := Lib.hid (fun o => HBI.out.alloc HBI.out.size o)
                have HTN : Hid (∀ b' : Bool, (b = true → b' = true) → (y.it = ⟨x.r.it.seq, true, x.r.it.m⟩ → b' = true) → ∀ y' ∈ r1.is.take (j + 1), y'.it = ⟨x.r.it.seq, true, x.r.it.m⟩ → b' = true) := Lib.hid (fun b' h1 h2 y' hy' he => by
                  rw [List.take_add_one, hy] at hy'
                  rcases List.mem_append.1 hy' with h | h
                  · exact h1 (HT.out y' h he)
                  · obtain rfl : y' = y := by simpa using h
                    exact h2 he)
                have HOKY := Lib.hid oky
                clear hy hjl hj oky
                cases b with
                | true =>
                  have HT2 := Lib.hid (HTN.out true (fun h => h) (fun _ => rfl))
                  go_wp2_with fail
                  go_roundw
                  case rel => exact ⟨j + 1, true, HJT.out, by first | rfl | (rw [HWK2.out]; rfl), rfl, HT2, Lib.hid (HBJ.out _)⟩
                  case measure => first | exact round_less1 HJT.out | (rw [HWK2.out]; exact round_less1 HJT.out)
                | false =>
                  have k3 : ∀ o, (wr.alloc o).cell? ⟨K11, 3, none⟩ = some (.int .i64 x.r.it.seq) := fun o => by have h := ((HBJ.out o).block _ (Array.getElem?_eq_some_iff.1 HR9.out).1).trans HR9.out; simp only [World.cell?, h]; rfl
                  cases hsq : (y.it.seq == x.r.it.seq) with
                  | false =>
                    have HT2 := Lib.hid (HTN.out false (fun h => h) (fun he => by rw [he] at hsq; simp at hsq))
                    go_wp2_with fail
                    go_roundw
                    case rel => exact ⟨j + 1, false, HJT.out, by first | rfl | (rw [HWK2.out]; rfl), rfl, HT2, Lib.hid (HBJ.out _)⟩
                    case measure => first | exact round_less1 HJT.out | (rw [HWK2.out]; exact round_less1 HJT.out)
                  | true =>
                    cases hag : y.it.again with
                    | false =>
                      have HT2 := Lib.hid (HTN.out false (fun h => h) (fun he => by rw [he] at hag; cases hag))
                      rw [hag] at p1
                      go_wp2_with fail
                      go_roundw
                      case rel => exact ⟨j + 1, false, HJT.out, by first | rfl | (rw [HWK2.out]; rfl), rfl, HT2, Lib.hid (HBJ.out _)⟩
                      case measure => first | exact round_less1 HJT.out | (rw [HWK2.out]; exact round_less1 HJT.out)
                    | true =>
                      rw [hag] at p1
                      have hx2 := hsq
                      go_upto_region 19 with fail
                      obtain ⟨WA, hWA⟩ : ∃ WA, WA = wr.alloc (.cells #[.int .i64 y.it.seq, .bool true, .string y.it.m.top, .string y.it.m.body, .slice y.pa y.it.m.ps.length y.pc, .bool y.it.m.dur, .int .i64 y.it.m.unt] 44) := ⟨_, rfl⟩
                      rw [← hWA]
                      have HRA : Hid (WA.heap[wr.heap.size]? = some (.cells #[.int .i64 y.it.seq, .bool true, .string y.it.m.top, .string y.it.m.body, .slice y.pa y.it.m.ps.length y.pc, .bool y.it.m.dur, .int .i64 y.it.m.unt] 44 (0, 0))) := Lib.hid (by rw [hWA]; exact heap_alloc_new wr _)
                      have HBA : Hid (Below W9.heap.size W9 WA) := Lib.hid (by rw [hWA]; exact HBJ.out _)
                      have HRX : Hid (WA.heap[K11]? = some (.cells #[.int .i64 x.tag, .int .i64 x.conn, .int .i64 x.sub, .int .i64 x.r.it.seq, .bool x.r.it.again, .string x.r.it.m.top, .string x.r.it.m.body, .slice x.r.pa x.r.it.m.ps.length x.r.pc, .bool x.r.it.m.dur, .int .i64 x.r.it.m.unt] 46 (0, 0))) := Lib.hid ((HBA.out.block _ (Array.getElem?_eq_some_iff.1 HR9.out).1).trans HR9.out)
                      have HSY := Lib.hid (sameMsg_c (w := WA) y.it.m x.r.it.m (A := y.pa) (c := y.pc) (A' := x.r.pa) (c' := x.r.pc) (HOKY.out.below (by rw [hWA]; exact (Below.refl _ _).alloc (Nat.le_refl _) _)) (HOK9.out.below HBA.out))
                      clear hWA p0 p1 p2 p3 p4 p5 p6 k3 HR9
                      have p0 : WA.cell? ⟨wr.heap.size, 0, none⟩ = some (.int .i64 y.it.seq) := by simp only [World.cell?, HRA.out]; rfl
                      have p1 : WA.cell? ⟨wr.heap.size, 1, none⟩ = some (.bool true) := by simp only [World.cell?, HRA.out]; rfl
                      have p2 : WA.cell? ⟨wr.heap.size, 2, none⟩ = some (.string y.it.m.top) := by simp only [World.cell?, HRA.out]; rfl
                      have p3 : WA.cell? ⟨wr.heap.size, 3, none⟩ = some (.string y.it.m.body) := by simp only [World.cell?, HRA.out]; rfl
                      have p4 : WA.cell? ⟨wr.heap.size, 4, none⟩ = some (.slice y.pa y.it.m.ps.length y.pc) := by simp only [World.cell?, HRA.out]; rfl
                      have p5 : WA.cell? ⟨wr.heap.size, 5, none⟩ = some (.bool y.it.m.dur) := by simp only [World.cell?, HRA.out]; rfl
                      have p6 : WA.cell? ⟨wr.heap.size, 6, none⟩ = some (.int .i64 y.it.m.unt) := by simp only [World.cell?, HRA.out]; rfl
                      have k0 : WA.cell? ⟨K11, 0, none⟩ = some (.int .i64 x.tag) := by simp only [World.cell?, HRX.out]; rfl
                      have k1 : WA.cell? ⟨K11, 1, none⟩ = some (.int .i64 x.conn) := by simp only [World.cell?, HRX.out]; rfl
                      have k2 : WA.cell? ⟨K11, 2, none⟩ = some (.int .i64 x.sub) := by simp only [World.cell?, HRX.out]; rfl
                      have k3 : WA.cell? ⟨K11, 3, none⟩ = some (.int .i64 x.r.it.seq) := by simp only [World.cell?, HRX.out]; rfl
                      have k4 : WA.cell? ⟨K11, 4, none⟩ = some (.bool x.r.it.again) := by simp only [World.cell?, HRX.out]; rfl
                      have k5 : WA.cell? ⟨K11, 5, none⟩ = some (.string x.r.it.m.top) := by simp only [World.cell?, HRX.out]; rfl
                      have k6 : WA.cell? ⟨K11, 6, none⟩ = some (.string x.r.it.m.body) := by simp only [World.cell?, HRX.out]; rfl
                      have k7 : WA.cell? ⟨K11, 7, none⟩ = some (.slice x.r.pa x.r.it.m.ps.length x.r.pc) := by simp only [World.cell?, HRX.out]; rfl
                      have k8 : WA.cell? ⟨K11, 8, none⟩ = some (.bool x.r.it.m.dur) := by simp only [World.cell?, HRX.out]; rfl
                      have k9 : WA.cell? ⟨K11, 9, none⟩ = some (.int .i64 x.r.it.m.unt) := by simp only [World.cell?, HRX.out]; rfl
                      go_wp2_with fail
                      refine (HSY.out).mono ?_
                      rintro e wB ⟨b, rfl, hb, bB⟩
                      have HT2 := Lib.hid (HTN.out b (fun h => by cases h) (fun he => hb.2 (by rw [he])))
                      have HBB := Lib.hid (HBA.out.trans (bB.mono HBA.out.size))
                      clear hb bB p0 p1 p2 p3 p4 p5 p6 k0 k1 k2 k3 k4 k5 k6 k7 k8 k9
                      go_wp2_with fail
                      go_roundw
                      case rel => exact ⟨j + 1, b, HJT.out, by first | rfl | (rw [HWK2.out]; rfl), rfl, HT2, HBB⟩
                      case measure => first | exact round_less1 HJT.out | (rw [HWK2.out]; exact round_less1 HJT.out)
              · have hj2 : j = r1.is.length := by omega
                subst hj2
                obtain rfl : b = true := by
                  obtain ⟨y, hy, he⟩ := HM.out
                  exact HT.out y (by rw [List.take_length]; exact hy) he
                have HBE := Lib.hid (HB9.out.trans (HBI.out.mono HB9.out.size))
                clear hjl hj HT
                go_wp2_with fail
                go_roundw
                case rel => exact ⟨k + 1, c, HLT.out, by first | rfl | (rw [HWK1.out]; rfl), rfl, HC2, HBE⟩
                case measure => first | exact round_less1 HLT.out | (rw [HWK1.out]; exact round_less1 HLT.out)
        · have hk2 : k = r.hs.length := by omega
          subst hk2
          have HCE : Hid (r1.hs.length = c) := Lib.hid (by rw [HCN.out, HLH1.out, HHX.out, List.take_of_length_le (by rw [HL2.out]; exact Nat.le_refl _)])
          have x6 := HX6.out wr HB.out
          have hce : ((r1.hs.length : Int) == (c : Int)) = true := by rw [HCE.out]; exact beq_self_eq_true _
          clear hlt hk HCN
          go_wp2_with fail
          go_ret
          exact ⟨by first | rfl | (rw [hce]), HB0.out.trans ((B8.out.trans (HB.out.mono B8.out.size)).mono HB0.out.size)⟩
end Go.Proofs.YtelhpdnclmpgoaaDoor
