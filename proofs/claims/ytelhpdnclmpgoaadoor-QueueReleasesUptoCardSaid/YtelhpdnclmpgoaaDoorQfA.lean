/- Layer 10: what is too long to be played. (Printed by gen/qfa.py.) -/
import Derived.Test.YtelhpdnclmpgoaaDoorQeX
import Derived.Deep.DeepCutAuto
namespace Go.Proofs.YtelhpdnclmpgoaaDoor
open Go Go.RowKit Go.Sort
open Go.ChangeShapes Go.WideShapes Go.Deep
set_option linter.unusedSimpArgs false
set_option linter.unusedVariables false

set_option maxRecDepth 100000 in
set_option maxHeartbeats 4000000 in
theorem long_c {w : World} (q : Que) (r : QuR) (hq : QuIn w q r) (hi : r.is.length ≤ 1099511627776) (hh : r.hs.length ≤ 1099511627776) :
    Calls Tryd.prog 9 #[.agg #[.string q.name, .bool q.dur, .int .i64 q.depth, .int .i64 q.seq, .int .i64 q.tag, .slice r.ia r.is.length r.ic, .slice r.ha r.hs.length r.hc]] w fun e w' => ∃ b : Bool, e = .returned (.bool b) ∧ Below w.heap.size w w' := by
  obtain ⟨W, hW⟩ : ∃ W, W = (w.alloc (.cells #[.string q.name, .bool q.dur, .int .i64 q.depth, .int .i64 q.seq, .int .i64 q.tag, .slice r.ia r.is.length r.ic, .slice r.ha r.hs.length r.hc] 25)) := ⟨_, rfl⟩
  have b0 : Below w.heap.size w W := by rw [hW]; exact ((Below.refl _ _).alloc (Nat.le_refl _) _)
  have hsz : W.heap.size = w.heap.size + 1 := by rw [hW]; simp
  have r0 : W.heap[w.heap.size]? = some (.cells #[.string q.name, .bool q.dur, .int .i64 q.depth, .int .i64 q.seq, .int .i64 q.tag, .slice r.ia r.is.length r.ic, .slice r.ha r.hs.length r.hc] 25 (0, 0)) := by rw [hW]; exact alloc_at _ _ _ (by simp)
  have HR0 : Hid (∀ w1, Below W.heap.size W w1 → w1.heap[w.heap.size]? = some (.cells #[.string q.name, .bool q.dur, .int .i64 q.depth, .int .i64 q.seq, .int .i64 q.tag, .slice r.ia r.is.length r.ic, .slice r.ha r.hs.length r.hc] 25 (0, 0))) := Lib.hid (fun w1 b => (b.block (w.heap.size) (by omega)).trans r0)
  have HZ0 : Hid (∀ w1, Below W.heap.size W w1 → ∀ j u, (#[.string q.name, .bool q.dur, .int .i64 q.depth, .int .i64 q.seq, .int .i64 q.tag, .slice r.ia r.is.length r.ic, .slice r.ha r.hs.length r.hc] : Array Value)[j]? = some u → w1.cell? ⟨w.heap.size, j, none⟩ = some u) := Lib.hid (fun w1 b j u hj => by simp only [World.cell?, HR0.out w1 b]; exact hj)
  have HF0 : Hid (∀ w1, Below W.heap.size W w1 → ∀ j, w1.frozen? ⟨w.heap.size, j, none⟩ = false) := Lib.hid (fun w1 b j => frozen_of_row _ _ j _ _ (HR0.out w1 b))
  have HQI := Lib.hid (hq.items.below b0)
  have HQH := Lib.hid (hq.held.below b0)
  have HIL := Lib.hid hi
  have HHL := Lib.hid hh
  have HB0 := Lib.hid b0
  have HW := Lib.hid hW
  have z5 := HZ0.out W (Below.refl _ _) 5 _ rfl
  have z6 := HZ0.out W (Below.refl _ _) 6 _ rfl
  obtain ⟨ia, ic, is, ha, hc, hs⟩ := r
  dsimp only at *
  clear hW b0 hsz r0 hq hi hh
  go_enter Tryd.func9, Tryd.ntmps9
  go_upto_region 1 with fail
  rw [← HW.out]
  by_cases hbig : 200 < wrap64 ((is.length : Int) + (hs.length : Int))
  · have hbig2 : 200 < IntKind.i64.wrap ((is.length : Int) + (hs.length : Int)) := by rw [IntKind.wrap_i64]; unfold wrap64 at hbig; exact hbig
    go_wp2_with fail
    go_ret
    exact ⟨_, rfl, HB0.out⟩
  · have hbig2 : ¬ 200 < IntKind.i64.wrap ((is.length : Int) + (hs.length : Int)) := by rw [IntKind.wrap_i64]; unfold wrap64 at hbig; exact hbig
    go_wp2_with fail
    clear hbig hbig2
    have BB : Hid (Below W.heap.size W W) := Lib.hid (Below.refl _ _)
    go_loopw [3, 20] (fun t i wr => ∃ (k : Nat) (s : Int), k ≤ is.length ∧ i = .int .i64 k ∧ t = .int .i64 s ∧ Hid (Below W.heap.size W wr)) (fun _ i _ => is.length - (intOf i).toNat)
    case atStart => exact ⟨0, _, Nat.zero_le _, rfl, rfl, BB⟩
    case round =>
      clear BB
      obtain ⟨k, s, hk, rfl, rfl, HB⟩ := hrel
      by_cases hlt : k < is.length
      · obtain ⟨x, hx⟩ : ∃ x, is[k]? = some x := ⟨_, List.getElem?_eq_getElem hlt⟩
        obtain ⟨ok, a, rfl, q0, q1, q2, q3, q4, q5, q6⟩ := items_lit (HQI.out.below HB.out) k x hx
        have hkI : (k : Int) < (is.length : Int) := by omega
        have HLT := Lib.hid hlt
        have HWK1 := Lib.hid (wk1 k _ hlt (by have := HIL.out; omega))
        have HB3 := Lib.hid (HB.out.alloc HB.out.size (.cells #[.int .i64 x.it.seq, .bool x.it.again, .string x.it.m.top, .string x.it.m.body, .slice x.pa x.it.m.ps.length x.pc, .bool x.it.m.dur, .int .i64 x.it.m.unt] 44))
        clear hx hlt hk ok
        go_wp2_with fail
        go_roundw
        case rel => exact ⟨k + 1, _, HLT.out, by first | rfl | (rw [HWK1.out]; rfl), rfl, HB3⟩
        case measure => first | exact round_less1 HLT.out | (rw [HWK1.out]; exact round_less1 HLT.out)
      · have hk2 : k = is.length := by omega
        subst hk2
        clear hlt hk
        have z6 := HZ0.out wr HB.out 6 _ rfl
        go_wp2_with fail
        have BB := HB
        clear HB
        go_loopw [3, 39] (fun t i wr => ∃ (k : Nat) (s : Int), k ≤ hs.length ∧ i = .int .i64 k ∧ t = .int .i64 s ∧ Hid (Below W.heap.size W wr)) (fun _ i _ => hs.length - (intOf i).toNat)
        case atStart => exact ⟨0, _, Nat.zero_le _, rfl, rfl, BB⟩
        case round =>
          clear BB
          obtain ⟨k, s, hk, rfl, rfl, HB⟩ := hrel
          by_cases hlt : k < hs.length
          · obtain ⟨x, hx⟩ : ∃ x, hs[k]? = some x := ⟨_, List.getElem?_eq_getElem hlt⟩
            obtain ⟨ok, a, rfl, q0, q1, q2, q3, q4, q5, q6, q7, q8, q9⟩ := held_lit (HQH.out.below HB.out) k x hx
            have hkI : (k : Int) < (hs.length : Int) := by omega
            have HLT := Lib.hid hlt
            have HWK1 := Lib.hid (wk1 k _ hlt (by have := HHL.out; omega))
            have HB3 := Lib.hid (HB.out.alloc HB.out.size (.cells #[.int .i64 x.tag, .int .i64 x.conn, .int .i64 x.sub, .int .i64 x.r.it.seq, .bool x.r.it.again, .string x.r.it.m.top, .string x.r.it.m.body, .slice x.r.pa x.r.it.m.ps.length x.r.pc, .bool x.r.it.m.dur, .int .i64 x.r.it.m.unt] 46))
            clear hx hlt hk ok
            go_wp2_with fail
            go_roundw
            case rel => exact ⟨k + 1, _, HLT.out, by first | rfl | (rw [HWK1.out]; rfl), rfl, HB3⟩
            case measure => first | exact round_less1 HLT.out | (rw [HWK1.out]; exact round_less1 HLT.out)
          · have hk2 : k = hs.length := by omega
            subst hk2
            clear hlt hk
            go_wp2_with fail
            go_ret
            exact ⟨_, rfl, HB0.out.trans (HB.out.mono HB0.out.size)⟩
end Go.Proofs.YtelhpdnclmpgoaaDoor
