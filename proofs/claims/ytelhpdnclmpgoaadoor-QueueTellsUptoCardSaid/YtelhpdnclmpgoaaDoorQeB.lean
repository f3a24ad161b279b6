/- Layer 10: back: an item is put where it came from. (Printed by gen/qeb.py.) -/
import Derived.Test.YtelhpdnclmpgoaaDoorQeA
import Derived.Test.YtelhpdnclmpgoaaDoorQdC
import Derived.Deep.DeepCutAuto
namespace Go.Proofs.YtelhpdnclmpgoaaDoor
open Go Go.RowKit Go.Sort
open Go.ChangeShapes Go.WideShapes Go.Deep
set_option linter.unusedSimpArgs false
set_option linter.unusedVariables false

/-- The item, marked. -/
def ItR.mark (x : ItR) : ItR := ⟨⟨x.it.seq, true, x.it.m⟩, x.pa, x.pc⟩
theorem flat_ins (xs : List ItR) (y : ItR) (i : Nat) (hi : i ≤ xs.length) : (xs.flatMap ItR.cells).take (i * 7) ++ y.cells ++ (xs.flatMap ItR.cells).drop (i * 7) = (xs.take i ++ [y] ++ xs.drop i).flatMap ItR.cells := by
  have hl : ((xs.take i).flatMap ItR.cells).length = i * 7 := by rw [flat_len ItR.cells 7 (fun _ => rfl), List.length_take, Nat.min_eq_left hi]
  have e : xs.flatMap ItR.cells = (xs.take i).flatMap ItR.cells ++ (xs.drop i).flatMap ItR.cells := by rw [← List.flatMap_append, List.take_append_drop]
  rw [e, List.take_left' hl, List.drop_left' hl, List.flatMap_append, List.flatMap_append]
  simp

set_option maxRecDepth 100000 in
set_option maxHeartbeats 2000000 in
theorem back_c {w : World} {base g : Nat} (q : Que) (r : QuR) (x : ItR) (hrow : w.heap[g]? = some (.cells #[.string q.name, .bool q.dur, .int .i64 q.depth, .int .i64 q.seq, .int .i64 q.tag, .slice r.ia r.is.length r.ic, .slice r.ha r.hs.length r.hc] 25 (0, 0))) (ho : w.ownsRow base 44 7 (.slice r.ia r.is.length r.ic) r.is.length (r.is.flatMap ItR.cells)) (hit : RIt w (.slice r.ia r.is.length r.ic) r.is) (hbase : base ≤ g) (hgi : (Value.slice r.ia r.is.length r.ic).ownBlock ≠ some g) (hm : ItMono r.is) (hl : r.is.length ≤ 4294967400) :
    Calls Tryd.prog 39 #[.pointer (some ⟨g, 0, none⟩), .agg #[.int .i64 x.it.seq, .bool x.it.again, .string x.it.m.top, .string x.it.m.body, .slice x.pa x.it.m.ps.length x.pc, .bool x.it.m.dur, .int .i64 x.it.m.unt]] w fun e w' => e = .returned (.tuple #[]) ∧ ∃ (i : Nat) (A : Option Addr) (c : Nat) (w1 : World), ItPlace r.is x.it.seq i ∧ w1.ownsRow base 44 7 (.slice A (r.is.length + 1) c) (r.is.length + 1) ((r.is.take i ++ [x.mark] ++ r.is.drop i).flatMap ItR.cells) ∧ w.grownBy w1 (Value.slice r.ia r.is.length r.ic).ownBlock ∧ ((Value.slice A (r.is.length + 1) c).ownBlock = (Value.slice r.ia r.is.length r.ic).ownBlock ∨ ∃ k, (Value.slice A (r.is.length + 1) c).ownBlock = some k ∧ w.heap.size ≤ k) ∧ w' = w1.setCell ⟨g, 5, none⟩ (.slice A (r.is.length + 1) c) := by
  have hgs : g < w.heap.size := (Array.getElem?_eq_some_iff.1 hrow).1
  have hln : r.is.length ≤ 1099511627776 := by omega
  obtain ⟨W, hW⟩ : ∃ W, W = w.alloc (.cells #[.int .i64 x.it.seq, .bool true, .string x.it.m.top, .string x.it.m.body, .slice x.pa x.it.m.ps.length x.pc, .bool x.it.m.dur, .int .i64 x.it.m.unt] 44) := ⟨_, rfl⟩
  have b0 : Below w.heap.size w W := by rw [hW]; exact (Below.refl _ _).alloc (Nat.le_refl _) _
  have hsz : W.heap.size = w.heap.size + 1 := by rw [hW]; simp
  have z : ∀ j u, (#[.int .i64 x.it.seq, .bool true, .string x.it.m.top, .string x.it.m.body, .slice x.pa x.it.m.ps.length x.pc, .bool x.it.m.dur, .int .i64 x.it.m.unt] : Array Value)[j]? = some u → W.drew.cell? ⟨w.heap.size, j, none⟩ = some u := fun j u hj => by rw [hW]; exact new_cell j u hj
  have hBS := bsearchI_c (w := W.drew) x.it.seq (hit.below b0.drew) hm hln
  have hrW : W.drew.heap[g]? = some (.cells #[.string q.name, .bool q.dur, .int .i64 q.depth, .int .i64 q.seq, .int .i64 q.tag, .slice r.ia r.is.length r.ic, .slice r.ha r.hs.length r.hc] 25 (0, 0)) := (b0.block g hgs).trans hrow
  have k5 : W.drew.cell? ⟨g, 5, none⟩ = some (.slice r.ia r.is.length r.ic) := by simp only [World.cell?, hrW]; rfl
  have HW := Lib.hid hW
  have HB0 := Lib.hid b0
  have HBS := Lib.hid hBS
  have HO := Lib.hid ho
  have HL : Hid ((r.is.length + 1) * 88 ≤ 140737488355328) := Lib.hid (by omega)
  have HSZ := Lib.hid hsz
  have HGS := Lib.hid hgs
  have HGI := Lib.hid hgi
  have HBG := Lib.hid hbase
  have HZ := Lib.hid z
  have HRW := Lib.hid hrW
  have hK : w.heap.size < W.drew.heap.size := by show _ < W.heap.size; omega
  have hG : g < W.drew.heap.size := by show _ < W.heap.size; omega
  have hne : ¬ w.heap.size = g := by omega
  have z0 := z 0 _ rfl
  clear hW b0 hsz hBS ho hit hm hl hln hgi hbase hrow z hrW hgs
  go_enter Tryd.func39, Tryd.ntmps39
  go_upto_region 2 with fail
  rw [← HW.out]
  go_cut [4] (fun v wx => ∃ i : Nat, v = .int .i64 i ∧ Hid (ItPlace r.is x.it.seq i) ∧ Hid (Below W.heap.size W wx))
  case first =>
    go_region_with (go_at_call 56; refine (HBS.out).mono ?_; rintro e w3 ⟨i, bb, hi, rfl, b3⟩; have HI := Lib.hid hi; have HB3 : Hid (Below W.heap.size W w3) := Lib.hid (((Below.refl _ W).drew).trans (b3.mono (Nat.le_refl _))); clear hi b3)
    all_goals (go_wp2_with fail; go_meet; exact ⟨i, rfl, HI, HB3⟩)
  case rest =>
    obtain ⟨i, rfl, HI, HB3⟩ := hcut
    clear k5 z0
    have b4 : Below W.heap.size W wc.drew := HB3.out.drew
    have hsw : W.heap.size ≤ wc.heap.size := HB3.out.size
    have hrc : wc.drew.heap[g]? = some (.cells #[.string q.name, .bool q.dur, .int .i64 q.depth, .int .i64 q.seq, .int .i64 q.tag, .slice r.ia r.is.length r.ic, .slice r.ha r.hs.length r.hc] 25 (0, 0)) := (b4.block g hG).trans HRW.out
    have k5 : wc.drew.cell? ⟨g, 5, none⟩ = some (.slice r.ia r.is.length r.ic) := by simp only [World.cell?, hrc]; rfl
    have y : ∀ j u, (#[.int .i64 x.it.seq, .bool true, .string x.it.m.top, .string x.it.m.body, .slice x.pa x.it.m.ps.length x.pc, .bool x.it.m.dur, .int .i64 x.it.m.unt] : Array Value)[j]? = some u → wc.drew.cell? ⟨w.heap.size, j, none⟩ = some u := fun j u hj => cell_below b4 hK (HZ.out j u hj)
    have y0 := y 0 _ rfl
    have y1 := y 1 _ rfl
    have y2 := y 2 _ rfl
    have y3 := y 3 _ rfl
    have y4 := y 4 _ rfl
    have y5 := y 5 _ rfl
    have y6 := y 6 _ rfl
    have k5x : ∀ o, (wc.drew.alloc o).cell? ⟨g, 5, none⟩ = some (.slice r.ia r.is.length r.ic) := fun o => Lib.cell?_alloc_some _ k5
    have k5y : ∀ o, (wc.alloc o).cell? ⟨g, 5, none⟩ = some (.slice r.ia r.is.length r.ic) := fun o => Lib.cell?_alloc_some (W := wc) _ k5
    have bw : Below w.heap.size w wc.drew := HB0.out.trans (b4.mono HB0.out.size)
    obtain ⟨W5, hW5⟩ : ∃ W5, W5 = (wc.alloc (.cells #[.int .i64 x.it.seq, .bool true, .string x.it.m.top, .string x.it.m.body, .slice x.pa x.it.m.ps.length x.pc, .bool x.it.m.dur, .int .i64 x.it.m.unt] 44)).drew := ⟨_, rfl⟩
    have bw5 : Below w.heap.size w W5 := by rw [hW5]; exact ((HB0.out.trans (HB3.out.mono HB0.out.size)).alloc (HB0.out.trans (HB3.out.mono HB0.out.size)).size _).drew
    have o5 : W5.ownsRow base 44 7 (.slice r.ia r.is.length r.ic) r.is.length (r.is.flatMap ItR.cells) := own_below HO.out bw5
    have hv5 : W5.heap[wc.heap.size]? = some (.cells ([.int .i64 x.it.seq, .bool true, .string x.it.m.top, .string x.it.m.body, .slice x.pa x.it.m.ps.length x.pc, .bool x.it.m.dur, .int .i64 x.it.m.unt] : List Value).toArray 44 (0, 0)) := by rw [hW5]; exact heap_alloc_new wc _
    have hIN := insI_c (w0 := W5) (w := W5) (base := base) (vb := wc.heap.size) (i := i) (ys := [.int .i64 x.it.seq, .bool true, .string x.it.m.top, .string x.it.m.body, .slice x.pa x.it.m.ps.length x.pc, .bool x.it.m.dur, .int .i64 x.it.m.unt]) o5 (Below.refl _ _) (by have := HBG.out; have := HGS.out; have := bw5.size; omega) (cells_oneI r.is) hv5 (fun e => by have := own_lt' o5 e; have h2 := own_lt' HO.out e; have := HSZ.out; omega) rfl (by intro u hu; simp only [List.mem_cons, List.not_mem_nil, or_false] at hu; rcases hu with rfl | rfl | rfl | rfl | rfl | rfl | rfl <;> rfl) HI.out.1 HL.out
    have hr5 : W5.heap[g]? = some (.cells #[.string q.name, .bool q.dur, .int .i64 q.depth, .int .i64 q.seq, .int .i64 q.tag, .slice r.ia r.is.length r.ic, .slice r.ha r.hs.length r.hc] 25 (0, 0)) := by rw [hW5]; exact (((Below.refl wc.heap.size wc).alloc (Nat.le_refl _) _).block g (by have : g < W.heap.size := hG; omega)).trans hrc
    have HP : Hid (∀ w6, World.grownBy W5 w6 (Value.slice r.ia r.is.length r.ic).ownBlock → w6.heap[g]? = some (.cells #[.string q.name, .bool q.dur, .int .i64 q.depth, .int .i64 q.seq, .int .i64 q.tag, .slice r.ia r.is.length r.ic, .slice r.ha r.hs.length r.hc] 25 (0, 0))) := Lib.hid (fun w6 g6 => (g6.block g (Array.getElem?_eq_some_iff.1 hr5).1 (fun e => HGI.out e.symm)).trans hr5)
    have HIN := Lib.hid hIN
    have HR5 := Lib.hid hr5
    have HBW5 := Lib.hid bw5
    have HW5 := Lib.hid hW5
    have hG5 : g < W5.heap.size := (Array.getElem?_eq_some_iff.1 hr5).1
    have HG5 := Lib.hid hG5
    rw [HW5.out] at HIN
    clear b4 hsw hrc y bw bw5 o5 hv5 hIN hr5 hW5 hG5
    go_upto_region 3 with fail
    go_region_with (go_at_call 59; refine (HIN.out).mono ?_; rintro e w6 ⟨v6, rfl, o6, b6, g6, k6⟩; obtain ⟨A6, c6, rfl⟩ := rc_any' (own_rc o6); have O6 := Lib.hid o6; have G6 := Lib.hid g6; have K6 := Lib.hid k6; have r6 := HP.out w6 (by rw [HW5.out]; exact g6); have k5 : w6.cell? ⟨g, 5, none⟩ = some (.slice r.ia r.is.length r.ic) := (by simp only [World.cell?, r6]; rfl); have fz : w6.frozen? ⟨g, 5, none⟩ = false := frozen_of_row _ _ 5 _ _ r6; clear o6 b6 g6 k6 r6)
    all_goals (
      go_wp2_with fail
      go_end0
      refine ⟨rfl, i, A6, c6, w6, HI.out, ?_, ?_, ?_, rfl⟩
      · have h := O6.out
        rwa [show ([.int .i64 x.it.seq, .bool true, .string x.it.m.top, .string x.it.m.body, .slice x.pa x.it.m.ps.length x.pc, .bool x.it.m.dur, .int .i64 x.it.m.unt] : List Value) = x.mark.cells from rfl, flat_ins r.is x.mark i HI.out.1] at h
      · have h := G6.out
        rw [← HW5.out] at h
        exact grownBy_trans (grownBy_below HBW5.out _) h
      · rcases K6.out with h | h
        · exact .inl h
        · refine .inr ⟨_, h, ?_⟩
          rw [← HW5.out]
          exact HBW5.out.size)
end Go.Proofs.YtelhpdnclmpgoaaDoor
