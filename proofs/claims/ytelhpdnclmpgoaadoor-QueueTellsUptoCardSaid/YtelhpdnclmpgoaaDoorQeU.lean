/- Layer 10: Take. (Printed by gen/qet.py.) -/
import Derived.Test.YtelhpdnclmpgoaaDoorQeT
import Derived.Test.YtelhpdnclmpgoaaDoorQeR
import Derived.Deep.DeepCutAuto
namespace Go.Proofs.YtelhpdnclmpgoaaDoor
open Go Go.RowKit Go.Sort
open Go.ChangeShapes Go.WideShapes Go.Deep
set_option linter.unusedSimpArgs false
set_option linter.unusedVariables false

set_option maxRecDepth 100000 in
set_option maxHeartbeats 4000000 in
theorem take_c {w : World} (q : Que) (r : QuR) (cn sb : Int) (hd : Bool) (hq : QuIn w q r) (hf : q.fit) (hg : GM w) :
    Calls Tryd.prog 27 #[.agg #[.string q.name, .bool q.dur, .int .i64 q.depth, .int .i64 q.seq, .int .i64 q.tag, .slice r.ia r.is.length r.ic, .slice r.ha r.hs.length r.hc], .int .i64 cn, .int .i64 sb, .bool hd] w fun e w' => ∃ (r' : QuR) (x' : ItR), e = .returned (.tuple #[.agg #[.string (takeR q cn sb hd).1.name, .bool (takeR q cn sb hd).1.dur, .int .i64 (takeR q cn sb hd).1.depth, .int .i64 (takeR q cn sb hd).1.seq, .int .i64 (takeR q cn sb hd).1.tag, .slice r'.ia r'.is.length r'.ic, .slice r'.ha r'.hs.length r'.hc], .int .i64 (takeR q cn sb hd).2.1, .agg #[.int .i64 x'.it.seq, .bool x'.it.again, .string x'.it.m.top, .string x'.it.m.body, .slice x'.pa x'.it.m.ps.length x'.pc, .bool x'.it.m.dur, .int .i64 x'.it.m.unt], .int .i64 (takeR q cn sb hd).2.2.2]) ∧ OwnW w' w.heap.size (takeR q cn sb hd).1 r' ∧ x'.it = (takeR q cn sb hd).2.2.1 ∧ x'.ok w' ∧ (∀ a, x'.pa = some a → w.heap.size ≤ a.block) ∧ Below w.heap.size w w' := by
  obtain ⟨pr, hpr⟩ : ∃ pr, pr = takeR q cn sb hd := ⟨_, rfl⟩
  rw [← hpr]
  obtain ⟨W, hW⟩ : ∃ W, W = (((w.alloc (.cells #[.string q.name, .bool q.dur, .int .i64 q.depth, .int .i64 q.seq, .int .i64 q.tag, .slice r.ia r.is.length r.ic, .slice r.ha r.hs.length r.hc] 25)).alloc (.cells #[.string ⟨#[]⟩, .bool false, .int .i64 0, .int .i64 0, .int .i64 0, .slice none 0 0, .slice none 0 0] 25)).alloc (.cells #[.int .i64 0, .bool false, .string ⟨#[]⟩, .string ⟨#[]⟩, .slice none 0 0, .bool false, .int .i64 0] 44)) := ⟨_, rfl⟩
  have b0 : Below w.heap.size w W := by rw [hW]; exact ((((Below.refl _ _).alloc (Nat.le_refl _) _).alloc (by simp; try omega) _).alloc (by simp; try omega) _)
  have hsz : W.heap.size = w.heap.size + 3 := by rw [hW]; simp
  have r0 : W.heap[w.heap.size]? = some (.cells #[.string q.name, .bool q.dur, .int .i64 q.depth, .int .i64 q.seq, .int .i64 q.tag, .slice r.ia r.is.length r.ic, .slice r.ha r.hs.length r.hc] 25 (0, 0)) := by rw [hW]; exact alloc_keep _ (alloc_keep _ (alloc_at _ _ _ (by simp)))
  have HR0 : Hid (∀ w1, Below W.heap.size W w1 → w1.heap[w.heap.size]? = some (.cells #[.string q.name, .bool q.dur, .int .i64 q.depth, .int .i64 q.seq, .int .i64 q.tag, .slice r.ia r.is.length r.ic, .slice r.ha r.hs.length r.hc] 25 (0, 0))) := Lib.hid (fun w1 b => (b.block (w.heap.size) (by omega)).trans r0)
  have HZ0 : Hid (∀ w1, Below W.heap.size W w1 → ∀ j u, (#[.string q.name, .bool q.dur, .int .i64 q.depth, .int .i64 q.seq, .int .i64 q.tag, .slice r.ia r.is.length r.ic, .slice r.ha r.hs.length r.hc] : Array Value)[j]? = some u → w1.cell? ⟨w.heap.size, j, none⟩ = some u) := Lib.hid (fun w1 b j u hj => by simp only [World.cell?, HR0.out w1 b]; exact hj)
  have HF0 : Hid (∀ w1, Below W.heap.size W w1 → ∀ j, w1.frozen? ⟨w.heap.size, j, none⟩ = false) := Lib.hid (fun w1 b j => frozen_of_row _ _ j _ _ (HR0.out w1 b))
  have r1 : W.heap[w.heap.size + 1]? = some (.cells #[.string ⟨#[]⟩, .bool false, .int .i64 0, .int .i64 0, .int .i64 0, .slice none 0 0, .slice none 0 0] 25 (0, 0)) := by rw [hW]; exact alloc_keep _ (alloc_at _ _ _ (by simp))
  have HR1 : Hid (∀ w1, Below W.heap.size W w1 → w1.heap[w.heap.size + 1]? = some (.cells #[.string ⟨#[]⟩, .bool false, .int .i64 0, .int .i64 0, .int .i64 0, .slice none 0 0, .slice none 0 0] 25 (0, 0))) := Lib.hid (fun w1 b => (b.block (w.heap.size + 1) (by omega)).trans r1)
  have HZ1 : Hid (∀ w1, Below W.heap.size W w1 → ∀ j u, (#[.string ⟨#[]⟩, .bool false, .int .i64 0, .int .i64 0, .int .i64 0, .slice none 0 0, .slice none 0 0] : Array Value)[j]? = some u → w1.cell? ⟨w.heap.size + 1, j, none⟩ = some u) := Lib.hid (fun w1 b j u hj => by simp only [World.cell?, HR1.out w1 b]; exact hj)
  have HF1 : Hid (∀ w1, Below W.heap.size W w1 → ∀ j, w1.frozen? ⟨w.heap.size + 1, j, none⟩ = false) := Lib.hid (fun w1 b j => frozen_of_row _ _ j _ _ (HR1.out w1 b))
  have r2 : W.heap[w.heap.size + 2]? = some (.cells #[.int .i64 0, .bool false, .string ⟨#[]⟩, .string ⟨#[]⟩, .slice none 0 0, .bool false, .int .i64 0] 44 (0, 0)) := by rw [hW]; exact alloc_at _ _ _ (by simp)
  have HR2 : Hid (∀ w1, Below W.heap.size W w1 → w1.heap[w.heap.size + 2]? = some (.cells #[.int .i64 0, .bool false, .string ⟨#[]⟩, .string ⟨#[]⟩, .slice none 0 0, .bool false, .int .i64 0] 44 (0, 0))) := Lib.hid (fun w1 b => (b.block (w.heap.size + 2) (by omega)).trans r2)
  have HZ2 : Hid (∀ w1, Below W.heap.size W w1 → ∀ j u, (#[.int .i64 0, .bool false, .string ⟨#[]⟩, .string ⟨#[]⟩, .slice none 0 0, .bool false, .int .i64 0] : Array Value)[j]? = some u → w1.cell? ⟨w.heap.size + 2, j, none⟩ = some u) := Lib.hid (fun w1 b j u hj => by simp only [World.cell?, HR2.out w1 b]; exact hj)
  have HF2 : Hid (∀ w1, Below W.heap.size W w1 → ∀ j, w1.frozen? ⟨w.heap.size + 2, j, none⟩ = false) := Lib.hid (fun w1 b j => frozen_of_row _ _ j _ _ (HR2.out w1 b))
  have h1 : q.items.length = r.is.length := by rw [← hq.ip, List.length_map]
  have h2 : q.held.length = r.hs.length := by rw [← hq.hp, List.length_map]
  have HG := Lib.hid (goodQ_c q r (hq.below b0) hf (hg.below b0))
  have HC := Lib.hid (fun w1 (b : Below W.heap.size W w1) => copy_c (w := w1) q r ((hq.below b0).below b) (by have := hf.il; omega) (by have := hf.hl; omega) (fun x hx => by have := (hf.im x.it (by rw [← hq.ip]; exact List.mem_map.2 ⟨x, hx, rfl⟩)).2.2.1; omega) (fun x hx => by have := (hf.hm x.pl (by rw [← hq.hp]; exact List.mem_map.2 ⟨x, hx, rfl⟩)).2.2.1; show x.r.it.m.ps.length * 56 ≤ _; have h' : x.r.it.m.ps.length ≤ 1048576 := this; omega))
  have HCP := Lib.hid (fun (x : Itm) (hx : x ∈ q.items) => (by have := (hf.im x hx).2.2.1; omega : x.m.ps.length * 56 ≤ 140737488355328))
  have HPR := Lib.hid hpr
  have HSZ := Lib.hid hsz
  have HW := Lib.hid hW
  have HB := Lib.hid b0
  have HFIT := Lib.hid hf
  have HL1 := Lib.hid h1
  have z0 := HZ0.out W (Below.refl _ _) 0 _ rfl
  have z1 := HZ0.out W (Below.refl _ _) 1 _ rfl
  have z2 := HZ0.out W (Below.refl _ _) 2 _ rfl
  have z3 := HZ0.out W (Below.refl _ _) 3 _ rfl
  have z4 := HZ0.out W (Below.refl _ _) 4 _ rfl
  have z5 := HZ0.out W (Below.refl _ _) 5 _ rfl
  have z6 := HZ0.out W (Below.refl _ _) 6 _ rfl
  clear hpr hW b0 hsz r0 r1 r2 hq hf hg h1 h2
  go_enter Tryd.func27, Tryd.ntmps27
  go_upto_region 1 with fail
  rw [← HW.out]
  go_wp2_with fail
  refine (HG.out).mono ?_
  rintro e w1 ⟨rfl, b1⟩
  clear z0 z1 z2 z3 z4 z5 z6
  have B1 := Lib.hid b1
  have z4 := HZ0.out w1 b1 4 _ rfl
  have z5 := HZ0.out w1 b1 5 _ rfl
  have x0 := HZ1.out w1 b1 0 _ rfl
  have x1 := HZ1.out w1 b1 1 _ rfl
  have x2 := HZ1.out w1 b1 2 _ rfl
  have x3 := HZ1.out w1 b1 3 _ rfl
  have x4 := HZ1.out w1 b1 4 _ rfl
  have x5 := HZ1.out w1 b1 5 _ rfl
  have x6 := HZ1.out w1 b1 6 _ rfl
  have u0 := HZ2.out w1 b1 0 _ rfl
  have u1 := HZ2.out w1 b1 1 _ rfl
  have u2 := HZ2.out w1 b1 2 _ rfl
  have u3 := HZ2.out w1 b1 3 _ rfl
  have u4 := HZ2.out w1 b1 4 _ rfl
  have u5 := HZ2.out w1 b1 5 _ rfl
  have u6 := HZ2.out w1 b1 6 _ rfl
  have fz := HF1.out w1 b1
  have fy := HF2.out w1 b1
  clear b1
  cases hgd : goodQ q with
  | false =>
    obtain rfl : pr = (noQ, 0, noI, 1) := by rw [HPR.out]; unfold takeR; rw [if_neg (fun h => by rw [hgd] at h; exact absurd h.1 (by decide))]
    go_wp2_with fail
    refine take_end (w := w1) (g := w.heap.size + 1) (g2 := w.heap.size + 2) rfl _ _ _ _ _ _ _ _ _ _ _ _ _ _ (HR1.out _ B1.out) (HR2.out _ B1.out) (by omega) rfl rfl rfl ?_
    exact ⟨noR, ⟨noI, none, 0⟩, rfl, ownw_no _ _, rfl, noI_ok _, (fun a ha => by cases ha), below7 (below7 (HB.out.trans (Below.mono B1.out HB.out.size)) (by omega) _ _ _ _ _ _ _) (by omega) _ _ _ _ _ _ _⟩
  | true =>
    by_cases h0 : cn < 0
    · obtain rfl : pr = (noQ, 0, noI, 1) := by rw [HPR.out]; unfold takeR; rw [if_neg (fun h => by omega)]
      go_wp2_with fail
      refine take_end (w := w1) (g := w.heap.size + 1) (g2 := w.heap.size + 2) rfl _ _ _ _ _ _ _ _ _ _ _ _ _ _ (HR1.out _ B1.out) (HR2.out _ B1.out) (by omega) rfl rfl rfl ?_
      exact ⟨noR, ⟨noI, none, 0⟩, rfl, ownw_no _ _, rfl, noI_ok _, (fun a ha => by cases ha), below7 (below7 (HB.out.trans (Below.mono B1.out HB.out.size)) (by omega) _ _ _ _ _ _ _) (by omega) _ _ _ _ _ _ _⟩
    · have k0 : 0 ≤ cn := by omega
      clear h0
      by_cases h1 : 8 ≤ cn
      · obtain rfl : pr = (noQ, 0, noI, 1) := by rw [HPR.out]; unfold takeR; rw [if_neg (fun h => by omega)]
        go_wp2_with fail
        refine take_end (w := w1) (g := w.heap.size + 1) (g2 := w.heap.size + 2) rfl _ _ _ _ _ _ _ _ _ _ _ _ _ _ (HR1.out _ B1.out) (HR2.out _ B1.out) (by omega) rfl rfl rfl ?_
        exact ⟨noR, ⟨noI, none, 0⟩, rfl, ownw_no _ _, rfl, noI_ok _, (fun a ha => by cases ha), below7 (below7 (HB.out.trans (Below.mono B1.out HB.out.size)) (by omega) _ _ _ _ _ _ _) (by omega) _ _ _ _ _ _ _⟩
      · have k1 : cn < 8 := by omega
        clear h1
        by_cases h2 : sb < 0
        · obtain rfl : pr = (noQ, 0, noI, 1) := by rw [HPR.out]; unfold takeR; rw [if_neg (fun h => by omega)]
          go_wp2_with fail
          refine take_end (w := w1) (g := w.heap.size + 1) (g2 := w.heap.size + 2) rfl _ _ _ _ _ _ _ _ _ _ _ _ _ _ (HR1.out _ B1.out) (HR2.out _ B1.out) (by omega) rfl rfl rfl ?_
          exact ⟨noR, ⟨noI, none, 0⟩, rfl, ownw_no _ _, rfl, noI_ok _, (fun a ha => by cases ha), below7 (below7 (HB.out.trans (Below.mono B1.out HB.out.size)) (by omega) _ _ _ _ _ _ _) (by omega) _ _ _ _ _ _ _⟩
        · have k2 : 0 ≤ sb := by omega
          clear h2
          by_cases h3 : 1099511627776 < sb
          · obtain rfl : pr = (noQ, 0, noI, 1) := by rw [HPR.out]; unfold takeR; rw [if_neg (fun h => by omega)]
            go_wp2_with fail
            refine take_end (w := w1) (g := w.heap.size + 1) (g2 := w.heap.size + 2) rfl _ _ _ _ _ _ _ _ _ _ _ _ _ _ (HR1.out _ B1.out) (HR2.out _ B1.out) (by omega) rfl rfl rfl ?_
            exact ⟨noR, ⟨noI, none, 0⟩, rfl, ownw_no _ _, rfl, noI_ok _, (fun a ha => by cases ha), below7 (below7 (HB.out.trans (Below.mono B1.out HB.out.size)) (by omega) _ _ _ _ _ _ _) (by omega) _ _ _ _ _ _ _⟩
          · have k3 : sb ≤ 1099511627776 := by omega
            clear h3
            by_cases h4 : 1099511627776 ≤ q.tag
            · obtain rfl : pr = (noQ, 0, noI, 1) := by rw [HPR.out]; unfold takeR; rw [if_neg (fun h => by omega)]
              go_wp2_with fail
              refine take_end (w := w1) (g := w.heap.size + 1) (g2 := w.heap.size + 2) rfl _ _ _ _ _ _ _ _ _ _ _ _ _ _ (HR1.out _ B1.out) (HR2.out _ B1.out) (by omega) rfl rfl rfl ?_
              exact ⟨noR, ⟨noI, none, 0⟩, rfl, ownw_no _ _, rfl, noI_ok _, (fun a ha => by cases ha), below7 (below7 (HB.out.trans (Below.mono B1.out HB.out.size)) (by omega) _ _ _ _ _ _ _) (by omega) _ _ _ _ _ _ _⟩
            · have k4 : q.tag < 1099511627776 := by omega
              clear h4
              have HTG : Hid (0 ≤ q.tag) := Lib.hid (goodQ_tag hgd)
              have H64 : Hid (q.items.length + q.held.length ≤ 64) := Lib.hid (goodQ_len hgd)
              have HP1 : Hid (pr = match q.items[0]? with
                  | none => (noQ, 0, noI, 33)
                  | some x => (⟨q.name, q.dur, q.depth, q.seq, if hd = true then q.tag + 1 else q.tag, q.items.eraseIdx 0, if hd = true then q.held ++ [⟨q.tag + 1, cn, sb, x⟩] else q.held⟩, if hd = true then q.tag + 1 else 0, x, 0)) := Lib.hid (by rw [HPR.out]; unfold takeR; rw [if_pos ⟨hgd, k0, k1, k2, k3, k4⟩]; rfl)
              have HKT := Lib.hid k4
              by_cases hn : (r.is.length : Int) = 0
              · obtain rfl : pr = (noQ, 0, noI, 33) := by
                  have h0 : q.items = [] := List.length_eq_zero_iff.1 (by have := HL1.out; omega)
                  rw [HP1.out, h0]; rfl
                go_wp2_with fail
                refine take_end (w := w1) (g := w.heap.size + 1) (g2 := w.heap.size + 2) rfl _ _ _ _ _ _ _ _ _ _ _ _ _ _ (HR1.out _ B1.out) (HR2.out _ B1.out) (by omega) rfl rfl rfl ?_
                exact ⟨noR, ⟨noI, none, 0⟩, rfl, ownw_no _ _, rfl, noI_ok _, (fun a ha => by cases ha), below7 (below7 (HB.out.trans (Below.mono B1.out HB.out.size)) (by omega) _ _ _ _ _ _ _) (by omega) _ _ _ _ _ _ _⟩
              · obtain ⟨y, hy⟩ : ∃ y, q.items[0]? = some y := ⟨_, List.getElem?_eq_getElem (by have := HL1.out; omega)⟩
                have HY := Lib.hid hy
                have HP2 : Hid (pr = (⟨q.name, q.dur, q.depth, q.seq, if hd = true then q.tag + 1 else q.tag, q.items.eraseIdx 0, if hd = true then q.held ++ [⟨q.tag + 1, cn, sb, y⟩] else q.held⟩, if hd = true then q.tag + 1 else 0, y, 0)) := Lib.hid (by have h := HP1.out; rw [hy] at h; exact h)
                have hn' : ((r.is.length : Int) == 0) = false := by simpa using hn
                clear hy
                have z0 := HZ0.out w1 B1.out 0 _ rfl
                have z1 := HZ0.out w1 B1.out 1 _ rfl
                have z2 := HZ0.out w1 B1.out 2 _ rfl
                have z3 := HZ0.out w1 B1.out 3 _ rfl
                have z6 := HZ0.out w1 B1.out 6 _ rfl
                go_wp2_with fail
                refine (HC.out w1 B1.out).mono ?_
                rintro e w3 ⟨r', rfl, ho, b3⟩
                clear z0 z1 z2 z3 z4 z5 z6 x0 x1 x2 x3 x4 x5 x6 u0 u1 u2 u3 u4 u5 u6 fz fy
                have B3 := Lib.hid (B1.out.trans (b3.mono B1.out.size))
                have HS := Lib.hid (GQ.start (W := W) ho.weak B3.out B1.out.size b3.size)
                have hx : ∃ x, r'.is[0]? = some x ∧ x.it = y := by
                  have h := HY.out
                  rw [← ho.ip, List.getElem?_map] at h
                  obtain ⟨x', h1, h2⟩ := Option.map_eq_some_iff.1 h
                  exact ⟨x', h1, h2⟩
                obtain ⟨x, hx, hxy⟩ := hx
                have HX := Lib.hid hx
                subst hxy
                have h0I : (0 : Int) < (r'.is.length : Int) := by have := (List.getElem?_eq_some_iff.1 hx).1; omega
                have HFBW := Lib.hid (fun (B : Nat) (hB : w3.heap.size ≤ B) => ho.weak.fb hB)
                have HXM : Hid (x.it ∈ q.items) := Lib.hid (List.mem_of_getElem? HY.out)
                have HXL : Hid (x.ok w3 ∧ ∀ a, 0 < x.it.m.ps.length → x.pa = some a → a.block < w3.heap.size) := Lib.hid ⟨(ho.ik x (List.mem_of_getElem? hx)).1, fun a hn ha => (ho.ik x (List.mem_of_getElem? hx)).1.lt hn ha⟩
                have HBS : Hid (W.heap.size ≤ w1.heap.size) := Lib.hid B1.out.size
                obtain ⟨Bs, hBs⟩ : ∃ Bs, Bs = w1.heap.size := ⟨_, rfl⟩
                rw [← hBs] at HS HBS
                clear ho b3 hx hBs hn hn' k0 k1 k2 k3 k4 hgd
                go_upto_region 6 with fail
                obtain ⟨W4, hW4⟩ : ∃ W4, W4 = w3.alloc (.cells #[.string q.name, .bool q.dur, .int .i64 q.depth, .int .i64 q.seq, .int .i64 q.tag, .slice r'.ia r'.is.length r'.ic, .slice r'.ha r'.hs.length r'.hc] 25) := ⟨_, rfl⟩
                rw [← hW4] at HS
                rw [← hW4]
                have s4 : W4.heap.size = w3.heap.size + 1 := by rw [hW4]; simp
                obtain ⟨g, hge⟩ := HS.out.ptrI (by omega)
                have HGE := Lib.hid hge
                have HS4 := Lib.hid s4
                have g5 := HS.out.cell 5 _ rfl
                rw [hge] at g5
                have y0 : W4.cell? ⟨g, 0, none⟩ = some (.int .i64 x.it.seq) := HS.out.cellI hge HX.out 0 _ rfl
                have y1 : W4.cell? ⟨g, 1, none⟩ = some (.bool x.it.again) := HS.out.cellI hge HX.out 1 _ rfl
                have y2 : W4.cell? ⟨g, 2, none⟩ = some (.string x.it.m.top) := HS.out.cellI hge HX.out 2 _ rfl
                have y3 : W4.cell? ⟨g, 3, none⟩ = some (.string x.it.m.body) := HS.out.cellI hge HX.out 3 _ rfl
                have y4 : W4.cell? ⟨g, 4, none⟩ = some (.slice x.pa x.it.m.ps.length x.pc) := HS.out.cellI hge HX.out 4 _ rfl
                have y5 : W4.cell? ⟨g, 5, none⟩ = some (.bool x.it.m.dur) := HS.out.cellI hge HX.out 5 _ rfl
                have y6 : W4.cell? ⟨g, 6, none⟩ = some (.int .i64 x.it.m.unt) := HS.out.cellI hge HX.out 6 _ rfl
                have HLO := Lib.hid (HS.out.own.ik x (List.mem_of_getElem? HX.out))
                clear hW4 hge s4
                go_upto_region 7 with fail
                obtain ⟨W5, hW5⟩ : ∃ W5, W5 = W4.alloc (.cells #[.int .i64 x.it.seq, .bool x.it.again, .string x.it.m.top, .string x.it.m.body, .slice x.pa x.it.m.ps.length x.pc, .bool x.it.m.dur, .int .i64 x.it.m.unt] 44) := ⟨_, rfl⟩
                rw [← hW5]
                have b5 : Below W4.heap.size W4 W5 := by rw [hW5]; exact (Below.refl _ _).alloc (Nat.le_refl _) _
                have s5 : W5.heap.size = W4.heap.size + 1 := by rw [hW5]; simp
                have HS5 := Lib.hid (HS.out.below b5)
                have HLO5 := Lib.hid (HLO.out.to (grownBy_below b5 _) (.inr (.inr rfl)) (.inl rfl) (.inl rfl))
                have rit : W5.heap[W4.heap.size]? = some (.cells #[.int .i64 x.it.seq, .bool x.it.again, .string x.it.m.top, .string x.it.m.body, .slice x.pa x.it.m.ps.length x.pc, .bool x.it.m.dur, .int .i64 x.it.m.unt] 44 (0, 0)) := by rw [hW5]; exact heap_alloc_new W4 _
                have HFB := Lib.hid (HFBW.out W4.heap.size (by have := HS4.out; omega))
                have HRIT := Lib.hid rit
                have hdel : Calls Tryd.prog 43 #[.slice (some ⟨g, 0, none⟩) r'.is.length r'.ic, .int .i64 0, .int .i64 1] W5 _ := HS5.out.delI HGE.out HX.out
                obtain ⟨ns, hns⟩ : ∃ ns, ns = r'.is.eraseIdx 0 := ⟨_, rfl⟩
                rw [← hns] at hdel
                have hfb := HFB.out.delI HGE.out 0
                rw [← hns] at hfb
                have FB6 := Lib.hid hfb
                have HD := Lib.hid hdel
                have hgl : g < W4.heap.size := own_lt' HS.out.own.io (by rw [HGE.out]; rfl)
                have HGL := Lib.hid hgl
                have HS5S := Lib.hid s5
                have g5 := HS5.out.cell 5 _ rfl
                rw [HGE.out] at g5
                clear hW5 b5 rit hgl hdel hns hfb s5 y0 y1 y2 y3 y4 y5 y6 h0I HG HC HFBW HLO
                go_wp2_with fail
                refine (HD.out).mono ?_
                rintro e w6 ⟨rfl, row6, gq6, gr6, lo6⟩
                have hgG : w3.heap.size < W4.heap.size := by have := HS4.out; omega
                have rit6 : (w6.setCell ⟨w3.heap.size, 5, none⟩ (.slice (some ⟨g, 0, none⟩) ns.length r'.ic)).heap[W4.heap.size]? = some (.cells #[.int .i64 x.it.seq, .bool x.it.again, .string x.it.m.top, .string x.it.m.body, .slice x.pa x.it.m.ps.length x.pc, .bool x.it.m.dur, .int .i64 x.it.m.unt] 44 (0, 0)) :=
                  heap_set (by omega) _ _ ((gr6.block _ (Array.getElem?_eq_some_iff.1 HRIT.out).1 (fun e => by injection e with e; have := HGL.out; omega)).trans HRIT.out)
                have g5 : w6.cell? ⟨w3.heap.size, 5, none⟩ = some (.slice r'.ia r'.is.length r'.ic) := by simp only [World.cell?, row6]; rfl
                have fz : w6.frozen? ⟨w3.heap.size, 5, none⟩ = false := frozen_of_row _ _ 5 _ _ row6
                have HRIT6 := Lib.hid rit6
                have GQ6 := Lib.hid gq6
                have LO6 := Lib.hid (lo6 _ HLO5.out)
                clear row6 gq6 gr6 lo6 hgG rit6
                go_upto_region 9 with fail
                obtain ⟨W7, hW7⟩ : ∃ W7, W7 = w6.setCell ⟨w3.heap.size, 5, none⟩ (.slice (some ⟨g, 0, none⟩) ns.length r'.ic) := ⟨_, rfl⟩
                rw [← hW7]
                rw [← hW7] at GQ6 LO6 HRIT6
                have b7 : W4.heap.size < W7.heap.size := (Array.getElem?_eq_some_iff.1 HRIT6.out).1
                have HB7 := Lib.hid b7
                clear hW7 g5 fz HS5 HS HRIT b7
                cases hd with
                  | false =>
                    go_upto_region 13 with fail
                    obtain ⟨wc, r2, tg, Q2, hwc, GQA, FBA, XOK, RIT, HP5, htg⟩ : ∃ (wc : World) (r2 : QuR) (tg : Int) (Q2 : Que), wc = W7 ∧ Hid (GQ W wc Bs w3.heap.size Q2 r2) ∧ Hid (FB W4.heap.size r2) ∧ Hid (x.ok wc) ∧ Hid (wc.heap[W4.heap.size]? = some (.cells #[.int .i64 x.it.seq, .bool x.it.again, .string x.it.m.top, .string x.it.m.body, .slice x.pa x.it.m.ps.length x.pc, .bool x.it.m.dur, .int .i64 x.it.m.unt] 44 (0, 0))) ∧ Hid (pr = (Q2, tg, x.it, 0)) ∧ tg = 0 := ⟨_, _, _, _, rfl, GQ6, FB6, Lib.hid LO6.out.ok, HRIT6, Lib.hid HP2.out, rfl⟩
                    rw [← hwc]
                    clear hwc GQ6 LO6 HRIT6 FB6 HP2
                    rw [← htg]
                    have hpr3 := HP5.out
                    subst hpr3
                    clear htg
                    have y0 : wc.cell? ⟨W4.heap.size, 0, none⟩ = some (.int .i64 x.it.seq) := by simp only [World.cell?, RIT.out]; rfl
                    have y1 : wc.cell? ⟨W4.heap.size, 1, none⟩ = some (.bool x.it.again) := by simp only [World.cell?, RIT.out]; rfl
                    have y2 : wc.cell? ⟨W4.heap.size, 2, none⟩ = some (.string x.it.m.top) := by simp only [World.cell?, RIT.out]; rfl
                    have y3 : wc.cell? ⟨W4.heap.size, 3, none⟩ = some (.string x.it.m.body) := by simp only [World.cell?, RIT.out]; rfl
                    have y4 : wc.cell? ⟨W4.heap.size, 4, none⟩ = some (.slice x.pa x.it.m.ps.length x.pc) := by simp only [World.cell?, RIT.out]; rfl
                    have y5 : wc.cell? ⟨W4.heap.size, 5, none⟩ = some (.bool x.it.m.dur) := by simp only [World.cell?, RIT.out]; rfl
                    have y6 : wc.cell? ⟨W4.heap.size, 6, none⟩ = some (.int .i64 x.it.m.unt) := by simp only [World.cell?, RIT.out]; rfl
                    have HCC := Lib.hid (copied_c (w := wc) x.it.m XOK.out (HCP.out x.it HXM.out))
                    go_wp2_with fail
                    refine (HCC.out).mono ?_
                    rintro e w9 ⟨A', c', rfl, r5, hb5, b5⟩
                    have GQB := Lib.hid (GQA.out.below b5)
                    have RITB := Lib.hid ((b5.block _ (Array.getElem?_eq_some_iff.1 RIT.out).1).trans RIT.out)
                    have R5 := Lib.hid r5
                    have HB5 : Hid (∀ a, A' = some a → W4.heap.size < a.block) := Lib.hid (fun a ha => Nat.lt_of_lt_of_le (Array.getElem?_eq_some_iff.1 RIT.out).1 (hb5 a ha))
                    clear y0 y1 y2 y3 y4 y5 y6 r5 hb5 b5 GQA RIT HCC XOK
                    have y0 : w9.cell? ⟨W4.heap.size, 0, none⟩ = some (.int .i64 x.it.seq) := by simp only [World.cell?, RITB.out]; rfl
                    have y1 : w9.cell? ⟨W4.heap.size, 1, none⟩ = some (.bool x.it.again) := by simp only [World.cell?, RITB.out]; rfl
                    have y2 : w9.cell? ⟨W4.heap.size, 2, none⟩ = some (.string x.it.m.top) := by simp only [World.cell?, RITB.out]; rfl
                    have y3 : w9.cell? ⟨W4.heap.size, 3, none⟩ = some (.string x.it.m.body) := by simp only [World.cell?, RITB.out]; rfl
                    have y4 : w9.cell? ⟨W4.heap.size, 4, none⟩ = some (.slice x.pa x.it.m.ps.length x.pc) := by simp only [World.cell?, RITB.out]; rfl
                    have y5 : w9.cell? ⟨W4.heap.size, 5, none⟩ = some (.bool x.it.m.dur) := by simp only [World.cell?, RITB.out]; rfl
                    have y6 : w9.cell? ⟨W4.heap.size, 6, none⟩ = some (.int .i64 x.it.m.unt) := by simp only [World.cell?, RITB.out]; rfl
                    have fz : ∀ j, w9.frozen? ⟨W4.heap.size, j, none⟩ = false := fun j => frozen_of_row _ _ j _ _ RITB.out
                    go_upto_region 14 with fail
                    obtain ⟨WA, hWA⟩ : ∃ WA, WA = (((((w9.setCell ⟨W4.heap.size, 2, none⟩ (.string x.it.m.top)).setCell ⟨W4.heap.size, 3, none⟩ (.string x.it.m.body)).setCell ⟨W4.heap.size, 4, none⟩ (.slice A' x.it.m.ps.length c')).setCell ⟨W4.heap.size, 5, none⟩ (.bool x.it.m.dur)).setCell ⟨W4.heap.size, 6, none⟩ (.int .i64 x.it.m.unt)) := ⟨_, rfl⟩
                    rw [← hWA]
                    have ritA : WA.heap[W4.heap.size]? = some (.cells #[.int .i64 x.it.seq, .bool x.it.again, .string x.it.m.top, .string x.it.m.body, .slice A' x.it.m.ps.length c', .bool x.it.m.dur, .int .i64 x.it.m.unt] 44 (0, 0)) := by rw [hWA]; exact cells7_m RITB.out _ _ _ _ _
                    have grA : w9.grownBy WA (some W4.heap.size) := by rw [hWA]; exact grown5 _ _ _ _ _ _ _
                    have OWA := Lib.hid (GQB.out.own.toW.setFB FBA.out grA)
                    have belA : Below W.heap.size W WA := GQB.out.bel.grown grA GQB.out.bel.size (fun k hk => by injection hk with hk; have := HBS.out; have := GQB.out.hB; have := HS4.out; omega)
                    have rowA : WA.heap[w3.heap.size]? = _ := (grA.block _ GQB.out.lt (fun e => by injection e with e; have := HS4.out; omega)).trans GQB.out.row
                    have okA : (ItR.mk x.it A' c').ok WA := rc_keep R5.out (fun hn A n c he hlt => grA.block _ hlt (fun e => by injection he with he; injection e with e; have := HB5.out A he; omega))
                    have HOKA := Lib.hid okA
                    have HBELA := Lib.hid belA
                    have HBNI : Hid (∀ a, A' = some a → w.heap.size + 2 < a.block) := Lib.hid (fun a ha => by have := HB5.out a ha; have := HS4.out; have := GQB.out.hB; have := HBS.out; have := HSZ.out; omega)
                    have hneI : ∀ a, A' = some a → w.heap.size ≤ a.block := fun a ha => by have := HB5.out a ha; have := HS4.out; have := GQB.out.hB; have := HBS.out; have := HSZ.out; omega
                    have HNEI := Lib.hid hneI
                    clear hWA grA okA hneI fz y0 y1 y2 y3 y4 y5 y6
                    have g0 : WA.drew.cell? ⟨w3.heap.size, 0, none⟩ = some (.string Q2.name) := by show WA.cell? _ = _; simp only [World.cell?, rowA]; rfl
                    have g1 : WA.drew.cell? ⟨w3.heap.size, 1, none⟩ = some (.bool Q2.dur) := by show WA.cell? _ = _; simp only [World.cell?, rowA]; rfl
                    have g2 : WA.drew.cell? ⟨w3.heap.size, 2, none⟩ = some (.int .i64 Q2.depth) := by show WA.cell? _ = _; simp only [World.cell?, rowA]; rfl
                    have g3 : WA.drew.cell? ⟨w3.heap.size, 3, none⟩ = some (.int .i64 Q2.seq) := by show WA.cell? _ = _; simp only [World.cell?, rowA]; rfl
                    have g4 : WA.drew.cell? ⟨w3.heap.size, 4, none⟩ = some (.int .i64 Q2.tag) := by show WA.cell? _ = _; simp only [World.cell?, rowA]; rfl
                    have g5 : WA.drew.cell? ⟨w3.heap.size, 5, none⟩ = some (.slice r2.ia r2.is.length r2.ic) := by show WA.cell? _ = _; simp only [World.cell?, rowA]; rfl
                    have g6 : WA.drew.cell? ⟨w3.heap.size, 6, none⟩ = some (.slice r2.ha r2.hs.length r2.hc) := by show WA.cell? _ = _; simp only [World.cell?, rowA]; rfl
                    have y0 : WA.drew.cell? ⟨W4.heap.size, 0, none⟩ = some (.int .i64 x.it.seq) := by show WA.cell? _ = _; simp only [World.cell?, ritA]; rfl
                    have y1 : WA.drew.cell? ⟨W4.heap.size, 1, none⟩ = some (.bool x.it.again) := by show WA.cell? _ = _; simp only [World.cell?, ritA]; rfl
                    have y2 : WA.drew.cell? ⟨W4.heap.size, 2, none⟩ = some (.string x.it.m.top) := by show WA.cell? _ = _; simp only [World.cell?, ritA]; rfl
                    have y3 : WA.drew.cell? ⟨W4.heap.size, 3, none⟩ = some (.string x.it.m.body) := by show WA.cell? _ = _; simp only [World.cell?, ritA]; rfl
                    have y4 : WA.drew.cell? ⟨W4.heap.size, 4, none⟩ = some (.slice A' x.it.m.ps.length c') := by show WA.cell? _ = _; simp only [World.cell?, ritA]; rfl
                    have y5 : WA.drew.cell? ⟨W4.heap.size, 5, none⟩ = some (.bool x.it.m.dur) := by show WA.cell? _ = _; simp only [World.cell?, ritA]; rfl
                    have y6 : WA.drew.cell? ⟨W4.heap.size, 6, none⟩ = some (.int .i64 x.it.m.unt) := by show WA.cell? _ = _; simp only [World.cell?, ritA]; rfl
                    have x0 := HZ1.out WA.drew belA.drew 0 _ rfl
                    have x1 := HZ1.out WA.drew belA.drew 1 _ rfl
                    have x2 := HZ1.out WA.drew belA.drew 2 _ rfl
                    have x3 := HZ1.out WA.drew belA.drew 3 _ rfl
                    have x4 := HZ1.out WA.drew belA.drew 4 _ rfl
                    have x5 := HZ1.out WA.drew belA.drew 5 _ rfl
                    have x6 := HZ1.out WA.drew belA.drew 6 _ rfl
                    have u0 := HZ2.out WA.drew belA.drew 0 _ rfl
                    have u1 := HZ2.out WA.drew belA.drew 1 _ rfl
                    have u2 := HZ2.out WA.drew belA.drew 2 _ rfl
                    have u3 := HZ2.out WA.drew belA.drew 3 _ rfl
                    have u4 := HZ2.out WA.drew belA.drew 4 _ rfl
                    have u5 := HZ2.out WA.drew belA.drew 5 _ rfl
                    have u6 := HZ2.out WA.drew belA.drew 6 _ rfl
                    have fz := HF1.out WA.drew belA.drew
                    have fy := HF2.out WA.drew belA.drew
                    have g0' : WA.cell? ⟨w3.heap.size, 0, none⟩ = some (.string Q2.name) := by show WA.cell? _ = _; simp only [World.cell?, rowA]; rfl
                    have g1' : WA.cell? ⟨w3.heap.size, 1, none⟩ = some (.bool Q2.dur) := by show WA.cell? _ = _; simp only [World.cell?, rowA]; rfl
                    have g2' : WA.cell? ⟨w3.heap.size, 2, none⟩ = some (.int .i64 Q2.depth) := by show WA.cell? _ = _; simp only [World.cell?, rowA]; rfl
                    have g3' : WA.cell? ⟨w3.heap.size, 3, none⟩ = some (.int .i64 Q2.seq) := by show WA.cell? _ = _; simp only [World.cell?, rowA]; rfl
                    have g4' : WA.cell? ⟨w3.heap.size, 4, none⟩ = some (.int .i64 Q2.tag) := by show WA.cell? _ = _; simp only [World.cell?, rowA]; rfl
                    have g5' : WA.cell? ⟨w3.heap.size, 5, none⟩ = some (.slice r2.ia r2.is.length r2.ic) := by show WA.cell? _ = _; simp only [World.cell?, rowA]; rfl
                    have g6' : WA.cell? ⟨w3.heap.size, 6, none⟩ = some (.slice r2.ha r2.hs.length r2.hc) := by show WA.cell? _ = _; simp only [World.cell?, rowA]; rfl
                    have y0' : WA.cell? ⟨W4.heap.size, 0, none⟩ = some (.int .i64 x.it.seq) := by show WA.cell? _ = _; simp only [World.cell?, ritA]; rfl
                    have y1' : WA.cell? ⟨W4.heap.size, 1, none⟩ = some (.bool x.it.again) := by show WA.cell? _ = _; simp only [World.cell?, ritA]; rfl
                    have y2' : WA.cell? ⟨W4.heap.size, 2, none⟩ = some (.string x.it.m.top) := by show WA.cell? _ = _; simp only [World.cell?, ritA]; rfl
                    have y3' : WA.cell? ⟨W4.heap.size, 3, none⟩ = some (.string x.it.m.body) := by show WA.cell? _ = _; simp only [World.cell?, ritA]; rfl
                    have y4' : WA.cell? ⟨W4.heap.size, 4, none⟩ = some (.slice A' x.it.m.ps.length c') := by show WA.cell? _ = _; simp only [World.cell?, ritA]; rfl
                    have y5' : WA.cell? ⟨W4.heap.size, 5, none⟩ = some (.bool x.it.m.dur) := by show WA.cell? _ = _; simp only [World.cell?, ritA]; rfl
                    have y6' : WA.cell? ⟨W4.heap.size, 6, none⟩ = some (.int .i64 x.it.m.unt) := by show WA.cell? _ = _; simp only [World.cell?, ritA]; rfl
                    have x0' := HZ1.out WA belA 0 _ rfl
                    have x1' := HZ1.out WA belA 1 _ rfl
                    have x2' := HZ1.out WA belA 2 _ rfl
                    have x3' := HZ1.out WA belA 3 _ rfl
                    have x4' := HZ1.out WA belA 4 _ rfl
                    have x5' := HZ1.out WA belA 5 _ rfl
                    have x6' := HZ1.out WA belA 6 _ rfl
                    have u0' := HZ2.out WA belA 0 _ rfl
                    have u1' := HZ2.out WA belA 1 _ rfl
                    have u2' := HZ2.out WA belA 2 _ rfl
                    have u3' := HZ2.out WA belA 3 _ rfl
                    have u4' := HZ2.out WA belA 4 _ rfl
                    have u5' := HZ2.out WA belA 5 _ rfl
                    have u6' := HZ2.out WA belA 6 _ rfl
                    have fz' := HF1.out WA belA
                    have fy' := HF2.out WA belA
                    have n41 : ¬ W4.heap.size = w.heap.size + 1 := by have := HS4.out; have := GQB.out.hB; have := HBS.out; have := HSZ.out; omega
                    have n42 : ¬ W4.heap.size = w.heap.size + 1 + 1 := by have := HS4.out; have := GQB.out.hB; have := HBS.out; have := HSZ.out; omega
                    have n31 : ¬ w3.heap.size = w.heap.size + 1 := by have := HS4.out; have := GQB.out.hB; have := HBS.out; have := HSZ.out; omega
                    have n32 : ¬ w3.heap.size = w.heap.size + 1 + 1 := by have := HS4.out; have := GQB.out.hB; have := HBS.out; have := HSZ.out; omega
                    have n42' : ¬ W4.heap.size = w.heap.size + 2 := n42
                    have n32' : ¬ w3.heap.size = w.heap.size + 2 := n32
                    clear belA rowA ritA
                    go_region
                    all_goals (
                      go_wp2_with fail
                      refine take_end_d (g := w.heap.size + 1) (g2 := w.heap.size + 2) rfl (set7_ne (by omega) _ _ _ _ _ _ _ (cells7_at (HR1.out _ HBELA.out) _ _ _ _ _ _ _)) (cells7_at (set7_ne (by omega) _ _ _ _ _ _ _ (HR2.out _ HBELA.out)) _ _ _ _ _ _ _) rfl rfl rfl ?_
                      refine ⟨r2, ⟨x.it, A', c'⟩, rfl, ?_, rfl, ?_, HNEI.out, (below7 (below7 (HB.out.trans (Below.mono HBELA.out HB.out.size)) (by omega) _ _ _ _ _ _ _) (by omega) _ _ _ _ _ _ _).drew⟩
                      · refine OwnW.lower (OwnW.far (OwnW.far (OwnW.far OWA.out (grown7 _ (w.heap.size + 1) _ _ _ _ _ _ _) ?_) (grown7 _ (w.heap.size + 2) _ _ _ _ _ _ _) ?_) (grownBy_below (Below.refl _ _).drew (some w.heap.size)) ?_) ?_
                        all_goals (have := HBS.out; have := HSZ.out; omega)
                      · exact rc_drew (rc_grown (rc_grown HOKA.out (grown7 _ _ _ _ _ _ _ _ _) (fun A n c he => by injection he with he _ _; have := HBNI.out A he; omega)) (grown7 _ _ _ _ _ _ _ _ _) (fun A n c he => by injection he with he _ _; have := HBNI.out A he; omega)))
                  | true =>
                    have g4 := GQ6.out.cell 4 _ rfl
                    have fz := GQ6.out.frz 4
                    have hwt : IntKind.i64.wrap (q.tag + 1) = q.tag + 1 := IntWalk.i64_in _ (by have := HKT.out; have := HTG.out; omega)
                    have hwt2 : wrap64 (q.tag + 1) = q.tag + 1 := by have := HKT.out; have := HTG.out; unfold wrap64; omega
                    go_upto_region 11 with fail
                    have GQ8 := Lib.hid (GQ6.out.setTag (q.tag + 1))
                    obtain ⟨W8, hW8⟩ : ∃ W8, W8 = W7.setCell ⟨w3.heap.size, 4, none⟩ (.int .i64 (q.tag + 1)) := ⟨_, rfl⟩
                    have rit8 : W8.heap[W4.heap.size]? = some (.cells #[.int .i64 x.it.seq, .bool x.it.again, .string x.it.m.top, .string x.it.m.body, .slice x.pa x.it.m.ps.length x.pc, .bool x.it.m.dur, .int .i64 x.it.m.unt] 44 (0, 0)) := by rw [hW8]; exact heap_set (by have := HS4.out; omega) _ _ HRIT6.out
                    have lo8 := LO6.out.to (grownBy_set W7 w3.heap.size 4 (.int .i64 (q.tag + 1))) (.inr (.inr rfl)) (.inl rfl) (.inl rfl)
                    have hs8 : W8.heap.size = W7.heap.size := by rw [hW8]; simp [World.setCell]
                    rw [← hW8] at GQ8 lo8
                    rw [← hW8]
                    have HRIT8 := Lib.hid rit8
                    have LO8 := Lib.hid lo8
                    have HS8 := Lib.hid hs8
                    clear hW8 rit8 lo8 hs8 g4 fz hwt hwt2
                    have g4 := GQ8.out.cell 4 _ rfl
                    go_upto_region 12 with fail
                    clear g4
                    have g6 := GQ8.out.cell 6 _ rfl
                    have y0 : W8.cell? ⟨W4.heap.size, 0, none⟩ = some (.int .i64 x.it.seq) := by simp only [World.cell?, HRIT8.out]; rfl
                    have y1 : W8.cell? ⟨W4.heap.size, 1, none⟩ = some (.bool x.it.again) := by simp only [World.cell?, HRIT8.out]; rfl
                    have y2 : W8.cell? ⟨W4.heap.size, 2, none⟩ = some (.string x.it.m.top) := by simp only [World.cell?, HRIT8.out]; rfl
                    have y3 : W8.cell? ⟨W4.heap.size, 3, none⟩ = some (.string x.it.m.body) := by simp only [World.cell?, HRIT8.out]; rfl
                    have y4 : W8.cell? ⟨W4.heap.size, 4, none⟩ = some (.slice x.pa x.it.m.ps.length x.pc) := by simp only [World.cell?, HRIT8.out]; rfl
                    have y5 : W8.cell? ⟨W4.heap.size, 5, none⟩ = some (.bool x.it.m.dur) := by simp only [World.cell?, HRIT8.out]; rfl
                    have y6 : W8.cell? ⟨W4.heap.size, 6, none⟩ = some (.int .i64 x.it.m.unt) := by simp only [World.cell?, HRIT8.out]; rfl
                    have HGA : Hid (∀ cs, GQ W (W8.alloc (.cells cs 46)) Bs w3.heap.size ⟨q.name, q.dur, q.depth, q.seq, q.tag + 1, q.items.eraseIdx 0, q.held⟩ ⟨some ⟨g, 0, none⟩, r'.ic, ns, r'.ha, r'.hc, r'.hs⟩) := Lib.hid (fun cs => GQ8.out.below ((Below.refl _ _).alloc (Nat.le_refl _) _))
                    have HLA : Hid (∀ cs, Lo (W8.alloc (.cells cs 46)) Bs w3.heap.size (Value.slice (some ⟨g, 0, none⟩) ns.length r'.ic).ownBlock r'.oh x) := Lib.hid (fun cs => LO8.out.to (grownBy_below ((Below.refl _ _).alloc (Nat.le_refl _) _) (some w3.heap.size)) (.inr (.inr rfl)) (.inl rfl) (.inl rfl))
                    have HNB : Hid ((r'.hs.length + 1) * 112 ≤ 140737488355328 ∧ r'.hs.length + 1 ≤ 9223372036854775807) := Lib.hid (by
                      have h2 := congrArg List.length GQ8.out.own.hp; rw [List.length_map] at h2; have h3 : r'.hs.length = q.held.length := h2; have := H64.out; omega)
                    have HBB : Hid (∀ cs, Bs ≤ (W8.alloc (.cells cs 46)).heap.size) := Lib.hid (fun o => Nat.le_trans (HGA.out o).hB (Nat.le_of_lt (HGA.out o).lt))
                    have HRC : Hid (RC (W8.alloc (.cells #[.int .i64 (q.tag + 1), .int .i64 cn, .int .i64 sb, .int .i64 x.it.seq, .bool x.it.again, .string x.it.m.top, .string x.it.m.body, .slice x.pa x.it.m.ps.length x.pc, .bool x.it.m.dur, .int .i64 x.it.m.unt] 46)) (.slice (some ⟨W8.heap.size, 0, none⟩) 1 1) 1 10 (HlR.mk (q.tag + 1) cn sb x).cells) := Lib.hid (rc_new W8 46 1 10 (HlR.mk (q.tag + 1) cn sb x).cells rfl (by decide))
                    have H1C : Hid (∀ y ∈ (HlR.mk (q.tag + 1) cn sb x).cells, y.oneCell' = true) := Lib.hid (fun y hy => cells_oneH [HlR.mk (q.tag + 1) cn sb x] y (by simpa using hy))
                    have HOH : Hid (∀ cs, (W8.alloc (.cells cs 46)).ownsRow Bs 46 10 (.slice r'.ha r'.hs.length r'.hc) r'.hs.length (r'.hs.flatMap HlR.cells)) := Lib.hid (fun cs => (HGA.out cs).own.ho)
                    have HRA : Hid (∀ cs, (W8.alloc (.cells cs 46)).heap[W4.heap.size]? = some (.cells #[.int .i64 x.it.seq, .bool x.it.again, .string x.it.m.top, .string x.it.m.body, .slice x.pa x.it.m.ps.length x.pc, .bool x.it.m.dur, .int .i64 x.it.m.unt] 44 (0, 0)) ∧ r'.oh ≠ some W4.heap.size) := Lib.hid (fun cs => ⟨alloc_keep _ HRIT8.out, FB6.out.h⟩)
                    have HXF : Hid (0 < x.it.m.ps.length → ∀ a, x.pa = some a → a.block ≠ W4.heap.size) := Lib.hid (fun hn a ha => by have := HXL.out.2 a hn ha; have := HS4.out; omega)
                    have HSZ8 : Hid (∀ cs, W4.heap.size < (W8.alloc (.cells cs 46)).heap.size) := Lib.hid (fun cs => (Array.getElem?_eq_some_iff.1 (HRA.out cs).1).1)
                    go_upto_region 13 with (at_builtin; refine app_own (w0 := W8.alloc (.cells #[.int .i64 (q.tag + 1), .int .i64 cn, .int .i64 sb, .int .i64 x.it.seq, .bool x.it.again, .string x.it.m.top, .string x.it.m.body, .slice x.pa x.it.m.ps.length x.pc, .bool x.it.m.dur, .int .i64 x.it.m.unt] 46)) Bs 23 46 10 112 _ Tryd.underlying23 infoH rfl (by decide) rfl (.tmp 67) (.tmp 73) rfl _ _ r'.hs.length 1 (r'.hs.flatMap HlR.cells) (HlR.mk (q.tag + 1) cn sb x).cells rfl rfl (HOH.out _) HRC.out H1C.out (Below.refl _ _) HNB.out.1 HNB.out.2 (HBB.out _) ?_; intro v1 w9 o1 b1 g1 k1; obtain ⟨A1, c1, rfl⟩ := rc_any' (own_rc o1); have HAP := Lib.hid (GQ.appH (HGA.out _) (x := HlR.mk (q.tag + 1) cn sb x) (HLA.out _) o1 g1 k1); have LO9 := Lib.hid (((HLA.out _).to g1 (.inr (.inl rfl)) (.inl rfl) (.inl rfl)).to (grownBy_set w9 w3.heap.size 6 (.slice A1 (r'.hs.length + 1) c1)) (.inr (.inr rfl)) (.inl rfl) (.inl rfl)); have RIT9 := Lib.hid ((g1.block _ (HSZ8.out _) (fun e => (HRA.out #[]).2 e.symm)).trans (HRA.out _).1); clear o1 b1 g1 k1; obtain ⟨A9, c9, hv9, row9, gq9, hat9⟩ := HAP.out; have GQ9 := Lib.hid gq9; have FB9 := Lib.hid (FB6.out.app (x := HlR.mk (q.tag + 1) cn sb x) HXF.out hat9 (HSZ8.out _)); have g6 : w9.cell? ⟨w3.heap.size, 6, none⟩ = some (.slice r'.ha r'.hs.length r'.hc) := (by simp only [World.cell?, row9]; rfl); have fz : w9.frozen? ⟨w3.heap.size, 6, none⟩ = false := frozen_of_row _ _ 6 _ _ row9; clear row9 gq9 hat9 hv9 HAP)
                    obtain ⟨wc, r2, tg, Q2, hwc, GQA, FBA, XOK, RIT, HP5, htg⟩ : ∃ (wc : World) (r2 : QuR) (tg : Int) (Q2 : Que), wc = w9.setCell ⟨w3.heap.size, 6, none⟩ (.slice A1 (r'.hs.length + 1) c1) ∧ Hid (GQ W wc Bs w3.heap.size Q2 r2) ∧ Hid (FB W4.heap.size r2) ∧ Hid (x.ok wc) ∧ Hid (wc.heap[W4.heap.size]? = some (.cells #[.int .i64 x.it.seq, .bool x.it.again, .string x.it.m.top, .string x.it.m.body, .slice x.pa x.it.m.ps.length x.pc, .bool x.it.m.dur, .int .i64 x.it.m.unt] 44 (0, 0))) ∧ Hid (pr = (Q2, tg, x.it, 0)) ∧ tg = q.tag + 1 := ⟨_, _, _, _, rfl, GQ9, FB9, Lib.hid LO9.out.ok, Lib.hid (heap_set (by have := HS4.out; omega) _ _ RIT9.out), Lib.hid HP2.out, rfl⟩
                    rw [← hwc]
                    clear hwc GQ6 LO6 HRIT6 FB6 HP2 GQ8 LO8 HRIT8 GQ9 FB9 LO9 RIT9 HGA HLA HNB HBB HRC H1C HOH HRA HXF HSZ8 g6 fz y0 y1 y2 y3 y4 y5 y6
                    rw [← htg]
                    have hpr3 := HP5.out
                    subst hpr3
                    clear htg
                    have y0 : wc.cell? ⟨W4.heap.size, 0, none⟩ = some (.int .i64 x.it.seq) := by simp only [World.cell?, RIT.out]; rfl
                    have y1 : wc.cell? ⟨W4.heap.size, 1, none⟩ = some (.bool x.it.again) := by simp only [World.cell?, RIT.out]; rfl
                    have y2 : wc.cell? ⟨W4.heap.size, 2, none⟩ = some (.string x.it.m.top) := by simp only [World.cell?, RIT.out]; rfl
                    have y3 : wc.cell? ⟨W4.heap.size, 3, none⟩ = some (.string x.it.m.body) := by simp only [World.cell?, RIT.out]; rfl
                    have y4 : wc.cell? ⟨W4.heap.size, 4, none⟩ = some (.slice x.pa x.it.m.ps.length x.pc) := by simp only [World.cell?, RIT.out]; rfl
                    have y5 : wc.cell? ⟨W4.heap.size, 5, none⟩ = some (.bool x.it.m.dur) := by simp only [World.cell?, RIT.out]; rfl
                    have y6 : wc.cell? ⟨W4.heap.size, 6, none⟩ = some (.int .i64 x.it.m.unt) := by simp only [World.cell?, RIT.out]; rfl
                    have HCC := Lib.hid (copied_c (w := wc) x.it.m XOK.out (HCP.out x.it HXM.out))
                    go_wp2_with fail
                    refine (HCC.out).mono ?_
                    rintro e w9 ⟨A', c', rfl, r5, hb5, b5⟩
                    have GQB := Lib.hid (GQA.out.below b5)
                    have RITB := Lib.hid ((b5.block _ (Array.getElem?_eq_some_iff.1 RIT.out).1).trans RIT.out)
                    have R5 := Lib.hid r5
                    have HB5 : Hid (∀ a, A' = some a → W4.heap.size < a.block) := Lib.hid (fun a ha => Nat.lt_of_lt_of_le (Array.getElem?_eq_some_iff.1 RIT.out).1 (hb5 a ha))
                    clear y0 y1 y2 y3 y4 y5 y6 r5 hb5 b5 GQA RIT HCC XOK
                    have y0 : w9.cell? ⟨W4.heap.size, 0, none⟩ = some (.int .i64 x.it.seq) := by simp only [World.cell?, RITB.out]; rfl
                    have y1 : w9.cell? ⟨W4.heap.size, 1, none⟩ = some (.bool x.it.again) := by simp only [World.cell?, RITB.out]; rfl
                    have y2 : w9.cell? ⟨W4.heap.size, 2, none⟩ = some (.string x.it.m.top) := by simp only [World.cell?, RITB.out]; rfl
                    have y3 : w9.cell? ⟨W4.heap.size, 3, none⟩ = some (.string x.it.m.body) := by simp only [World.cell?, RITB.out]; rfl
                    have y4 : w9.cell? ⟨W4.heap.size, 4, none⟩ = some (.slice x.pa x.it.m.ps.length x.pc) := by simp only [World.cell?, RITB.out]; rfl
                    have y5 : w9.cell? ⟨W4.heap.size, 5, none⟩ = some (.bool x.it.m.dur) := by simp only [World.cell?, RITB.out]; rfl
                    have y6 : w9.cell? ⟨W4.heap.size, 6, none⟩ = some (.int .i64 x.it.m.unt) := by simp only [World.cell?, RITB.out]; rfl
                    have fz : ∀ j, w9.frozen? ⟨W4.heap.size, j, none⟩ = false := fun j => frozen_of_row _ _ j _ _ RITB.out
                    go_upto_region 14 with fail
                    obtain ⟨WA, hWA⟩ : ∃ WA, WA = (((((w9.setCell ⟨W4.heap.size, 2, none⟩ (.string x.it.m.top)).setCell ⟨W4.heap.size, 3, none⟩ (.string x.it.m.body)).setCell ⟨W4.heap.size, 4, none⟩ (.slice A' x.it.m.ps.length c')).setCell ⟨W4.heap.size, 5, none⟩ (.bool x.it.m.dur)).setCell ⟨W4.heap.size, 6, none⟩ (.int .i64 x.it.m.unt)) := ⟨_, rfl⟩
                    rw [← hWA]
                    have ritA : WA.heap[W4.heap.size]? = some (.cells #[.int .i64 x.it.seq, .bool x.it.again, .string x.it.m.top, .string x.it.m.body, .slice A' x.it.m.ps.length c', .bool x.it.m.dur, .int .i64 x.it.m.unt] 44 (0, 0)) := by rw [hWA]; exact cells7_m RITB.out _ _ _ _ _
                    have grA : w9.grownBy WA (some W4.heap.size) := by rw [hWA]; exact grown5 _ _ _ _ _ _ _
                    have OWA := Lib.hid (GQB.out.own.toW.setFB FBA.out grA)
                    have belA : Below W.heap.size W WA := GQB.out.bel.grown grA GQB.out.bel.size (fun k hk => by injection hk with hk; have := HBS.out; have := GQB.out.hB; have := HS4.out; omega)
                    have rowA : WA.heap[w3.heap.size]? = _ := (grA.block _ GQB.out.lt (fun e => by injection e with e; have := HS4.out; omega)).trans GQB.out.row
                    have okA : (ItR.mk x.it A' c').ok WA := rc_keep R5.out (fun hn A n c he hlt => grA.block _ hlt (fun e => by injection he with he; injection e with e; have := HB5.out A he; omega))
                    have HOKA := Lib.hid okA
                    have HBELA := Lib.hid belA
                    have HBNI : Hid (∀ a, A' = some a → w.heap.size + 2 < a.block) := Lib.hid (fun a ha => by have := HB5.out a ha; have := HS4.out; have := GQB.out.hB; have := HBS.out; have := HSZ.out; omega)
                    have hneI : ∀ a, A' = some a → w.heap.size ≤ a.block := fun a ha => by have := HB5.out a ha; have := HS4.out; have := GQB.out.hB; have := HBS.out; have := HSZ.out; omega
                    have HNEI := Lib.hid hneI
                    clear hWA grA okA hneI fz y0 y1 y2 y3 y4 y5 y6
                    have g0 : WA.drew.cell? ⟨w3.heap.size, 0, none⟩ = some (.string Q2.name) := by show WA.cell? _ = _; simp only [World.cell?, rowA]; rfl
                    have g1 : WA.drew.cell? ⟨w3.heap.size, 1, none⟩ = some (.bool Q2.dur) := by show WA.cell? _ = _; simp only [World.cell?, rowA]; rfl
                    have g2 : WA.drew.cell? ⟨w3.heap.size, 2, none⟩ = some (.int .i64 Q2.depth) := by show WA.cell? _ = _; simp only [World.cell?, rowA]; rfl
                    have g3 : WA.drew.cell? ⟨w3.heap.size, 3, none⟩ = some (.int .i64 Q2.seq) := by show WA.cell? _ = _; simp only [World.cell?, rowA]; rfl
                    have g4 : WA.drew.cell? ⟨w3.heap.size, 4, none⟩ = some (.int .i64 Q2.tag) := by show WA.cell? _ = _; simp only [World.cell?, rowA]; rfl
                    have g5 : WA.drew.cell? ⟨w3.heap.size, 5, none⟩ = some (.slice r2.ia r2.is.length r2.ic) := by show WA.cell? _ = _; simp only [World.cell?, rowA]; rfl
                    have g6 : WA.drew.cell? ⟨w3.heap.size, 6, none⟩ = some (.slice r2.ha r2.hs.length r2.hc) := by show WA.cell? _ = _; simp only [World.cell?, rowA]; rfl
                    have y0 : WA.drew.cell? ⟨W4.heap.size, 0, none⟩ = some (.int .i64 x.it.seq) := by show WA.cell? _ = _; simp only [World.cell?, ritA]; rfl
                    have y1 : WA.drew.cell? ⟨W4.heap.size, 1, none⟩ = some (.bool x.it.again) := by show WA.cell? _ = _; simp only [World.cell?, ritA]; rfl
                    have y2 : WA.drew.cell? ⟨W4.heap.size, 2, none⟩ = some (.string x.it.m.top) := by show WA.cell? _ = _; simp only [World.cell?, ritA]; rfl
                    have y3 : WA.drew.cell? ⟨W4.heap.size, 3, none⟩ = some (.string x.it.m.body) := by show WA.cell? _ = _; simp only [World.cell?, ritA]; rfl
                    have y4 : WA.drew.cell? ⟨W4.heap.size, 4, none⟩ = some (.slice A' x.it.m.ps.length c') := by show WA.cell? _ = _; simp only [World.cell?, ritA]; rfl
                    have y5 : WA.drew.cell? ⟨W4.heap.size, 5, none⟩ = some (.bool x.it.m.dur) := by show WA.cell? _ = _; simp only [World.cell?, ritA]; rfl
                    have y6 : WA.drew.cell? ⟨W4.heap.size, 6, none⟩ = some (.int .i64 x.it.m.unt) := by show WA.cell? _ = _; simp only [World.cell?, ritA]; rfl
                    have x0 := HZ1.out WA.drew belA.drew 0 _ rfl
                    have x1 := HZ1.out WA.drew belA.drew 1 _ rfl
                    have x2 := HZ1.out WA.drew belA.drew 2 _ rfl
                    have x3 := HZ1.out WA.drew belA.drew 3 _ rfl
                    have x4 := HZ1.out WA.drew belA.drew 4 _ rfl
                    have x5 := HZ1.out WA.drew belA.drew 5 _ rfl
                    have x6 := HZ1.out WA.drew belA.drew 6 _ rfl
                    have u0 := HZ2.out WA.drew belA.drew 0 _ rfl
                    have u1 := HZ2.out WA.drew belA.drew 1 _ rfl
                    have u2 := HZ2.out WA.drew belA.drew 2 _ rfl
                    have u3 := HZ2.out WA.drew belA.drew 3 _ rfl
                    have u4 := HZ2.out WA.drew belA.drew 4 _ rfl
                    have u5 := HZ2.out WA.drew belA.drew 5 _ rfl
                    have u6 := HZ2.out WA.drew belA.drew 6 _ rfl
                    have fz := HF1.out WA.drew belA.drew
                    have fy := HF2.out WA.drew belA.drew
                    have g0' : WA.cell? ⟨w3.heap.size, 0, none⟩ = some (.string Q2.name) := by show WA.cell? _ = _; simp only [World.cell?, rowA]; rfl
                    have g1' : WA.cell? ⟨w3.heap.size, 1, none⟩ = some (.bool Q2.dur) := by show WA.cell? _ = _; simp only [World.cell?, rowA]; rfl
                    have g2' : WA.cell? ⟨w3.heap.size, 2, none⟩ = some (.int .i64 Q2.depth) := by show WA.cell? _ = _; simp only [World.cell?, rowA]; rfl
                    have g3' : WA.cell? ⟨w3.heap.size, 3, none⟩ = some (.int .i64 Q2.seq) := by show WA.cell? _ = _; simp only [World.cell?, rowA]; rfl
                    have g4' : WA.cell? ⟨w3.heap.size, 4, none⟩ = some (.int .i64 Q2.tag) := by show WA.cell? _ = _; simp only [World.cell?, rowA]; rfl
                    have g5' : WA.cell? ⟨w3.heap.size, 5, none⟩ = some (.slice r2.ia r2.is.length r2.ic) := by show WA.cell? _ = _; simp only [World.cell?, rowA]; rfl
                    have g6' : WA.cell? ⟨w3.heap.size, 6, none⟩ = some (.slice r2.ha r2.hs.length r2.hc) := by show WA.cell? _ = _; simp only [World.cell?, rowA]; rfl
                    have y0' : WA.cell? ⟨W4.heap.size, 0, none⟩ = some (.int .i64 x.it.seq) := by show WA.cell? _ = _; simp only [World.cell?, ritA]; rfl
                    have y1' : WA.cell? ⟨W4.heap.size, 1, none⟩ = some (.bool x.it.again) := by show WA.cell? _ = _; simp only [World.cell?, ritA]; rfl
                    have y2' : WA.cell? ⟨W4.heap.size, 2, none⟩ = some (.string x.it.m.top) := by show WA.cell? _ = _; simp only [World.cell?, ritA]; rfl
                    have y3' : WA.cell? ⟨W4.heap.size, 3, none⟩ = some (.string x.it.m.body) := by show WA.cell? _ = _; simp only [World.cell?, ritA]; rfl
                    have y4' : WA.cell? ⟨W4.heap.size, 4, none⟩ = some (.slice A' x.it.m.ps.length c') := by show WA.cell? _ = _; simp only [World.cell?, ritA]; rfl
                    have y5' : WA.cell? ⟨W4.heap.size, 5, none⟩ = some (.bool x.it.m.dur) := by show WA.cell? _ = _; simp only [World.cell?, ritA]; rfl
                    have y6' : WA.cell? ⟨W4.heap.size, 6, none⟩ = some (.int .i64 x.it.m.unt) := by show WA.cell? _ = _; simp only [World.cell?, ritA]; rfl
                    have x0' := HZ1.out WA belA 0 _ rfl
                    have x1' := HZ1.out WA belA 1 _ rfl
                    have x2' := HZ1.out WA belA 2 _ rfl
                    have x3' := HZ1.out WA belA 3 _ rfl
                    have x4' := HZ1.out WA belA 4 _ rfl
                    have x5' := HZ1.out WA belA 5 _ rfl
                    have x6' := HZ1.out WA belA 6 _ rfl
                    have u0' := HZ2.out WA belA 0 _ rfl
                    have u1' := HZ2.out WA belA 1 _ rfl
                    have u2' := HZ2.out WA belA 2 _ rfl
                    have u3' := HZ2.out WA belA 3 _ rfl
                    have u4' := HZ2.out WA belA 4 _ rfl
                    have u5' := HZ2.out WA belA 5 _ rfl
                    have u6' := HZ2.out WA belA 6 _ rfl
                    have fz' := HF1.out WA belA
                    have fy' := HF2.out WA belA
                    have n41 : ¬ W4.heap.size = w.heap.size + 1 := by have := HS4.out; have := GQB.out.hB; have := HBS.out; have := HSZ.out; omega
                    have n42 : ¬ W4.heap.size = w.heap.size + 1 + 1 := by have := HS4.out; have := GQB.out.hB; have := HBS.out; have := HSZ.out; omega
                    have n31 : ¬ w3.heap.size = w.heap.size + 1 := by have := HS4.out; have := GQB.out.hB; have := HBS.out; have := HSZ.out; omega
                    have n32 : ¬ w3.heap.size = w.heap.size + 1 + 1 := by have := HS4.out; have := GQB.out.hB; have := HBS.out; have := HSZ.out; omega
                    have n42' : ¬ W4.heap.size = w.heap.size + 2 := n42
                    have n32' : ¬ w3.heap.size = w.heap.size + 2 := n32
                    clear belA rowA ritA
                    go_region
                    all_goals (
                      go_wp2_with fail
                      refine take_end_d (g := w.heap.size + 1) (g2 := w.heap.size + 2) rfl (set7_ne (by omega) _ _ _ _ _ _ _ (cells7_at (HR1.out _ HBELA.out) _ _ _ _ _ _ _)) (cells7_at (set7_ne (by omega) _ _ _ _ _ _ _ (HR2.out _ HBELA.out)) _ _ _ _ _ _ _) rfl rfl rfl ?_
                      refine ⟨r2, ⟨x.it, A', c'⟩, rfl, ?_, rfl, ?_, HNEI.out, (below7 (below7 (HB.out.trans (Below.mono HBELA.out HB.out.size)) (by omega) _ _ _ _ _ _ _) (by omega) _ _ _ _ _ _ _).drew⟩
                      · refine OwnW.lower (OwnW.far (OwnW.far (OwnW.far OWA.out (grown7 _ (w.heap.size + 1) _ _ _ _ _ _ _) ?_) (grown7 _ (w.heap.size + 2) _ _ _ _ _ _ _) ?_) (grownBy_below (Below.refl _ _).drew (some w.heap.size)) ?_) ?_
                        all_goals (have := HBS.out; have := HSZ.out; omega)
                      · exact rc_drew (rc_grown (rc_grown HOKA.out (grown7 _ _ _ _ _ _ _ _ _) (fun A n c he => by injection he with he _ _; have := HBNI.out A he; omega)) (grown7 _ _ _ _ _ _ _ _ _) (fun A n c he => by injection he with he _ _; have := HBNI.out A he; omega)))
end Go.Proofs.YtelhpdnclmpgoaaDoor
