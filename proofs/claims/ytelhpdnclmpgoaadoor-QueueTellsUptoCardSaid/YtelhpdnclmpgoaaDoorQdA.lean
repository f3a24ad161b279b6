/- Layer 10: copied: a message in new memory. -/
import Derived.Test.YtelhpdnclmpgoaaDoorQcD
import Derived.Test.YtelhpdnclmpgoaaDoorSki
import Derived.Test.YtelhpdnclmpgoaaDoorSkh
import Derived.Test.YtelhpdnclmpgoaaDoorSkq
namespace Go.Proofs.YtelhpdnclmpgoaaDoor
open Go Go.RowKit Go.Sort
open Go.ChangeShapes Go.WideShapes Go.Deep
set_option linter.unusedSimpArgs false
set_option linter.unusedVariables false

theorem rc_setCell {w : World} {v : Value} {n s : Nat} {cs : List Value} (h : RC w v n s cs) (g j : Nat) (u : Value) (hne : ∀ A n c, v = .slice (some A) n c → A.block ≠ g) : RC (w.setCell ⟨g, j, none⟩ u) v n s cs :=
  rc_grown h (grownBy_set w g j u) hne
theorem bset {B : Nat} {w w1 : World} (h : Below B w w1) (g j : Nat) (u : Value) (hg : B ≤ g) : Below B w (w1.setCell ⟨g, j, none⟩ u) := h.setCell hg u
theorem cells_oneP (l : List Prp) : ∀ y ∈ l.flatMap Prp.cells, y.oneCell' = true := by
  intro y hy
  obtain ⟨p, _, hv⟩ := List.mem_flatMap.1 hy
  simp only [Prp.cells, List.mem_cons, List.not_mem_nil, or_false] at hv
  rcases hv with rfl | rfl | rfl | rfl | rfl <;> rfl
theorem rc_any' {w : World} {v : Value} {n s : Nat} {cs : List Value} (h : RC w v n s cs) : ∃ A c, v = .slice A n c := by
  obtain ⟨A, c, rfl, _⟩ := h
  exact ⟨A, c, rfl⟩
theorem cells5_at {w : World} {g : Nat} {t : TypeId} {c0 c1 c2 c3 c4 : Value} {fr : Nat × Nat} (h : w.heap[g]? = some (.cells #[c0, c1, c2, c3, c4] t fr)) (a b c d e : Value) : (((((w.setCell ⟨g, 0, none⟩ a).setCell ⟨g, 1, none⟩ b).setCell ⟨g, 2, none⟩ c).setCell ⟨g, 3, none⟩ d).setCell ⟨g, 4, none⟩ e).heap[g]? = some (.cells #[a, b, c, d, e] t fr) := by
  simp [World.setCell, Array.getElem?_modify, h]
theorem results_cell1 {P : Program} {fn : Func} {p : Tmp} {ty : TypeId} (h : fn.results = #[.cell p ty]) (tmps : Array Value) (w : World) (g : Nat) (t : TypeId) (cs : Array Value) (fr : Nat × Nat) (d : TypeDesc)
    (hp : tmps.getD p undef = .pointer (some ⟨g, 0, none⟩)) (hg : w.heap[g]? = some (.cells cs t fr))
    (hu : P.underlying ty = some d) (hd : (match d with | .struct _ | .array _ _ => true | _ => false) = true) (hi : (P.info? ty).map (·.size) = some cs.size) :
    (results fn tmps).run P w = .ok (.agg cs) w := by
  have hp' : tmps[p]?.getD undef = .pointer (some ⟨g, 0, none⟩) := by simpa using hp
  simp [results, h, hp', asAddr, run_loadVar_row w g t ty cs fr d hg hu hd hi]
theorem msg_end {fn : Func} {p : Tmp} (h : fn.results = #[.cell p 28]) {R : Ending → World → Prop} {a : Act} {w : World} {g : Nat} {t : TypeId} {c0 c1 c2 c3 c4 : Value} {fr : Nat × Nat} (d0 d1 d2 d3 d4 : Value)
    (hg : w.heap[g]? = some (.cells #[c0, c1, c2, c3, c4] t fr)) (hp : a.tmps.getD p undef = .pointer (some ⟨g, 0, none⟩)) (hd : a.defers = [])
    (hR : R (.returned (.agg #[d0, d1, d2, d3, d4])) (((((w.setCell ⟨g, 0, none⟩ d0).setCell ⟨g, 1, none⟩ d1).setCell ⟨g, 2, none⟩ d2).setCell ⟨g, 3, none⟩ d3).setCell ⟨g, 4, none⟩ d4)) : bodyPost Tryd.prog fn R .ret a (((((w.setCell ⟨g, 0, none⟩ d0).setCell ⟨g, 1, none⟩ d1).setCell ⟨g, 2, none⟩ d2).setCell ⟨g, 3, none⟩ d3).setCell ⟨g, 4, none⟩ d4) :=
  bodyPost_ret (results_cell1 h _ _ g t _ fr _ hp (cells5_at hg d0 d1 d2 d3 d4) Tryd.underlying28 rfl (by kernel_rfl)) hd hR

set_option maxRecDepth 100000 in
set_option maxHeartbeats 2000000 in
theorem copied_c {w : World} (m : Msg) {A : Option Addr} {c : Nat} (hp : RPr w (.slice A m.ps.length c) m.ps) (hn : m.ps.length * 56 ≤ 140737488355328) :
    Calls Tryd.prog 38 #[.agg #[.string m.top, .string m.body, .slice A m.ps.length c, .bool m.dur, .int .i64 m.unt]] w fun e w' => ∃ A' c', e = .returned (.agg #[.string m.top, .string m.body, .slice A' m.ps.length c', .bool m.dur, .int .i64 m.unt]) ∧ RPr w' (.slice A' m.ps.length c') m.ps ∧ (∀ a, A' = some a → w.heap.size ≤ a.block) ∧ Below w.heap.size w w' := by
  obtain ⟨W, hW⟩ : ∃ W, W = (w.alloc (.cells #[.string m.top, .string m.body, .slice A m.ps.length c, .bool m.dur, .int .i64 m.unt] 28)).alloc (.cells #[.string ⟨#[]⟩, .string ⟨#[]⟩, .slice none 0 0, .bool false, .int .i64 0] 28) := ⟨_, rfl⟩
  have b0 : Below w.heap.size w W := by rw [hW]; exact ((Below.refl _ _).alloc (Nat.le_refl _) _).alloc (by simp) _
  have hsz : W.heap.size = w.heap.size + 2 := by rw [hW]; simp
  have h0 : W.heap[w.heap.size]? = some (.cells #[.string m.top, .string m.body, .slice A m.ps.length c, .bool m.dur, .int .i64 m.unt] 28 (0, 0)) := by
    rw [hW]
    have h := heap_alloc_new w (.cells #[.string m.top, .string m.body, .slice A m.ps.length c, .bool m.dur, .int .i64 m.unt] 28)
    exact (((Below.refl _ _).alloc (Nat.le_refl _) _).block _ (by simp)).trans h
  have h1 : W.heap[w.heap.size + 1]? = some (.cells #[.string ⟨#[]⟩, .string ⟨#[]⟩, .slice none 0 0, .bool false, .int .i64 0] 28 (0, 0)) := by
    rw [hW]
    have h := heap_alloc_new (w.alloc (.cells #[.string m.top, .string m.body, .slice A m.ps.length c, .bool m.dur, .int .i64 m.unt] 28)) (.cells #[.string ⟨#[]⟩, .string ⟨#[]⟩, .slice none 0 0, .bool false, .int .i64 0] 28)
    simpa using h
  have HW := Lib.hid hW
  have HCL := Lib.hid (cloneP_c (rc_below hp b0) (cells_oneP m.ps) hn)
  have HB0 := Lib.hid b0
  have HH0 := Lib.hid h0
  have HH1 := Lib.hid h1
  have HSZ := Lib.hid hsz
  have y0 : ∀ w1, Below W.heap.size W w1 → ∀ j u, (#[.string m.top, .string m.body, .slice A m.ps.length c, .bool m.dur, .int .i64 m.unt] : Array Value)[j]? = some u → w1.cell? ⟨w.heap.size, j, none⟩ = some u := fun w1 b j u hj => by
    have := (b.block w.heap.size (by omega)).trans h0
    simp only [World.cell?, this]
    exact hj
  have HY := Lib.hid y0
  clear hW b0 hp hn h0 h1 hsz y0
  go_enter Tryd.func38, Tryd.ntmps38
  go_upto_region 1 with fail
  rw [← HW.out]
  have y2 := HY.out W (Below.refl _ _) 2 _ rfl
  go_wp2_with fail
  refine (HCL.out).mono ?_
  rintro e w1 ⟨v1, rfl, o1, b1⟩
  obtain ⟨A1, c1, rfl⟩ := rc_any' (own_rc o1)
  have hr0 := (b1.block w.heap.size (by have := HSZ.out; omega)).trans HH0.out
  have hr1 := (b1.block (w.heap.size + 1) (by have := HSZ.out; omega)).trans HH1.out
  have z0 := HY.out w1 b1 0 _ rfl
  have z1 := HY.out w1 b1 1 _ rfl
  have z2 := HY.out w1 b1 2 _ rfl
  have z3 := HY.out w1 b1 3 _ rfl
  have z4 := HY.out w1 b1 4 _ rfl
  have f0 : ∀ j, w1.frozen? ⟨w.heap.size, j, none⟩ = false := fun j => frozen_of_row _ _ j _ _ hr0
  have f1 : ∀ j, w1.frozen? ⟨w.heap.size + 1, j, none⟩ = false := fun j => frozen_of_row _ _ j _ _ hr1
  have x0 : w1.cell? ⟨w.heap.size + 1, 0, none⟩ = some (.string ⟨#[]⟩) := by simp only [World.cell?, hr1]; rfl
  have x1 : w1.cell? ⟨w.heap.size + 1, 1, none⟩ = some (.string ⟨#[]⟩) := by simp only [World.cell?, hr1]; rfl
  have x2 : w1.cell? ⟨w.heap.size + 1, 2, none⟩ = some (.slice none 0 0) := by simp only [World.cell?, hr1]; rfl
  have x3 : w1.cell? ⟨w.heap.size + 1, 3, none⟩ = some (.bool false) := by simp only [World.cell?, hr1]; rfl
  have x4 : w1.cell? ⟨w.heap.size + 1, 4, none⟩ = some (.int .i64 0) := by simp only [World.cell?, hr1]; rfl
  have hblk : ∀ a, A1 = some a → w.heap.size + 2 ≤ a.block := fun a ha => by have h := own_base o1 a.block (by rw [ha]; rfl); have := HSZ.out; omega
  have hr1' : (w1.setCell ⟨w.heap.size, 2, none⟩ (.slice A1 m.ps.length c1)).heap[w.heap.size + 1]? = some (.cells #[.string ⟨#[]⟩, .string ⟨#[]⟩, .slice none 0 0, .bool false, .int .i64 0] 28 (0, 0)) :=
    ((grownBy_set w1 w.heap.size 2 (.slice A1 m.ps.length c1)).block _ (Array.getElem?_eq_some_iff.1 hr1).1 (by simp)).trans hr1
  have HR1 := Lib.hid hr1'
  have HO := Lib.hid (own_rc o1)
  have HBK := Lib.hid hblk
  have HBB := Lib.hid (HB0.out.trans (b1.mono HB0.out.size))
  clear o1 b1 hr0 hr1 hr1' hblk y2
  have hne0 : ∀ A n c, Value.slice A1 m.ps.length c1 = .slice (some A) n c → A.block ≠ w.heap.size := fun A n c he => by injection he with he; have := HBK.out A he; omega
  have hne1 : ∀ A n c, Value.slice A1 m.ps.length c1 = .slice (some A) n c → A.block ≠ w.heap.size + 1 := fun A n c he => by injection he with he; have := HBK.out A he; omega
  have hfin := rc_setCell (rc_setCell (rc_setCell (rc_setCell (rc_setCell (rc_setCell HO.out w.heap.size 2 (.slice A1 m.ps.length c1) hne0) (w.heap.size + 1) 0 (.string m.top) hne1) (w.heap.size + 1) 1 (.string m.body) hne1) (w.heap.size + 1) 2 (.slice A1 m.ps.length c1) hne1) (w.heap.size + 1) 3 (.bool m.dur) hne1) (w.heap.size + 1) 4 (.int .i64 m.unt) hne1
  have HF := Lib.hid hfin
  have hbf := bset (bset (bset (bset (bset (bset HBB.out w.heap.size 2 (.slice A1 m.ps.length c1) (Nat.le_refl _)) (w.heap.size + 1) 0 (.string m.top) (Nat.le_succ _)) (w.heap.size + 1) 1 (.string m.body) (Nat.le_succ _)) (w.heap.size + 1) 2 (.slice A1 m.ps.length c1) (Nat.le_succ _)) (w.heap.size + 1) 3 (.bool m.dur) (Nat.le_succ _)) (w.heap.size + 1) 4 (.int .i64 m.unt) (Nat.le_succ _)
  have HBF := Lib.hid hbf
  clear hne0 hne1 hfin hbf
  go_wp2_with fail
  refine msg_end (w := w1.setCell ⟨w.heap.size, 2, none⟩ (.slice A1 m.ps.length c1)) (g := w.heap.size + 1) rfl _ _ _ _ _ HR1.out rfl rfl ?_
  exact ⟨A1, c1, rfl, HF.out, fun a ha => by have := HBK.out a ha; omega, HBF.out⟩
end Go.Proofs.YtelhpdnclmpgoaaDoor
