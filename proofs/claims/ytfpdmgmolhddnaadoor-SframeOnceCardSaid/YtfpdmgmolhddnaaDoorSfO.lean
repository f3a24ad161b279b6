/- Layer 18: Same at frames that are alike. (Printed by gen/sfn.py.) -/
import Derived.Test.YtfpdmgmolhddnaaDoorSfM
import Derived.BigQuiet
import Derived.Deep.QuietTactic
import Derived.Laws.StructEq
namespace Go.Proofs.YtfpdmgmolhddnaaDoor
open Go Go.RowKit Go.Sort
open Go.ChangeShapes Go.WideShapes Go.Deep
set_option linter.unusedSimpArgs false
set_option linter.unusedVariables false

theorem hdr_cmp (w : World) (a b c d : ByteArray) : (binOp .neq 32 (.agg #[.string a, .string b]) (.agg #[.string c, .string d])).run Tryd.prog w = .ok (.bool (!(a.toList == c.toList && b.toList == d.toList))) w := by
  rw [run_neq_struct, run_equalIn_agg w 9999 _ _ _ (by simp [Program.fieldsOf, Tryd.underlying32]) (by kernel_rfl)]
  have hs := fun (w : World) (k : Nat) (x y : ByteArray) => run_equalIn_string (P := Tryd.prog) w k 9 x y Tryd.underlying9
  have hp1 : ∀ (x y : Value) (w : World), (part 9 #[x, y] 0).run Tryd.prog w = .ok x w := fun x y w => by simp [part, go_sem]
  have hp2 : ∀ (x y : Value) (w : World), (part 9 #[x, y] 1).run Tryd.prog w = .ok y w := fun x y w => by simp [part, go_sem]
  simp [Program.fieldsOf, Tryd.underlying32, Op.eqFields, Result.andThen, hp1, hp2, hs]
  by_cases h1 : a.toList = c.toList <;> by_cases h2 : b.toList = d.toList <;> simp [h1, h2]
theorem hdr_neq (w : World) (a b : ByteArray) : (binOp .neq 32 (.agg #[.string a, .string b]) (.agg #[.string a, .string b])).run Tryd.prog w = .ok (.bool false) w := by
  rw [hdr_cmp]; simp
set_option maxRecDepth 100000 in
set_option maxHeartbeats 2000000 in
theorem same_eq {w : World} (c bd : ByteArray) (hs : List (L8 × L8)) {A A' : Option Addr} {cp cp' : Nat} (h : RHd w (.slice A hs.length cp) hs) (h' : RHd w (.slice A' hs.length cp') hs) (hl : hs.length ≤ 9223372036854775807) :
    Calls Tryd.prog 7 #[.agg #[.string c, .slice A hs.length cp, .string bd], .agg #[.string c, .slice A' hs.length cp', .string bd]] w fun e w' => e = .returned (.bool true) ∧ Below w.heap.size w w' := by
  obtain ⟨W, hW⟩ : ∃ W, W = (w.alloc (.cells #[.string c, .slice A hs.length cp, .string bd] 25)).alloc (.cells #[.string c, .slice A' hs.length cp', .string bd] 25) := ⟨_, rfl⟩
  have b0 : Below w.heap.size w W := by rw [hW]; exact ((Below.refl _ _).alloc (Nat.le_refl _) _).alloc (by simp) _
  have r0 : W.heap[w.heap.size]? = some (.cells #[.string c, .slice A hs.length cp, .string bd] 25 (0, 0)) := by rw [hW]; exact (Below.heap_alloc _ _ _ (by simp)).trans (heap_alloc_new w _)
  have r1 : W.heap[w.heap.size + 1]? = some (.cells #[.string c, .slice A' hs.length cp', .string bd] 25 (0, 0)) := by rw [hW]; have h := heap_alloc_new (w.alloc (.cells #[.string c, .slice A hs.length cp, .string bd] 25)) (.cells #[.string c, .slice A' hs.length cp', .string bd] 25); simpa using h
  obtain ⟨A1, hA1⟩ : ∃ a, a = A := ⟨_, rfl⟩
  obtain ⟨A2, hA2⟩ : ∃ a, a = A' := ⟨_, rfl⟩
  rw [← hA1] at h r0
  rw [← hA2] at h' r1
  have HR := Lib.hid (rhd_below h b0)
  have HR' := Lib.hid (rhd_below h' b0)
  have HL := Lib.hid hl
  have HB0 := Lib.hid b0
  have HW := Lib.hid hW
  have HZ : Hid (∀ w1, Below W.heap.size W w1 → ∀ j u, (#[.string c, .slice A1 hs.length cp, .string bd] : Array Value)[j]? = some u → w1.cell? ⟨w.heap.size, j, none⟩ = some u) := Lib.hid (fun w1 b j u hj => (cell3 ((b.block _ (Array.getElem?_eq_some_iff.1 r0).1).trans r0) j).trans hj)
  have HY : Hid (∀ w1, Below W.heap.size W w1 → ∀ j u, (#[.string c, .slice A2 hs.length cp', .string bd] : Array Value)[j]? = some u → w1.cell? ⟨w.heap.size + 1, j, none⟩ = some u) := Lib.hid (fun w1 b j u hj => (cell3 ((b.block _ (Array.getElem?_eq_some_iff.1 r1).1).trans r1) j).trans hj)
  have x0 := HZ.out W (Below.refl _ _) 0 _ rfl
  have x1 := HZ.out W (Below.refl _ _) 1 _ rfl
  have x2 := HZ.out W (Below.refl _ _) 2 _ rfl
  have y0 := HY.out W (Below.refl _ _) 0 _ rfl
  have y1 := HY.out W (Below.refl _ _) 1 _ rfl
  have y2 := HY.out W (Below.refl _ _) 2 _ rfl
  clear hA1 hA2 h h' hl b0 hW r0 r1
  go_enter Tryd.func7, Tryd.ntmps7
  go_upto_region 1 with fail
  try rw [← HW.out]
  go_wp2_with fail
  clear x0 x1 x2 y0 y1 y2
  go_loopw [5, 30] (fun _ i wr => ∃ k : Nat, k ≤ hs.length ∧ i = .int .i64 k ∧ Hid (Below W.heap.size W wr)) (fun _ i _ => hs.length - (intOf i).toNat)
  case atStart => exact ⟨0, Nat.zero_le _, rfl, Lib.hid (Below.refl _ _)⟩
  case round =>
    obtain ⟨k, hk, rfl, HB⟩ := hrel
    by_cases hlt : k < hs.length
    · obtain ⟨x, hx⟩ : ∃ x, hs[k]? = some x := ⟨_, List.getElem?_eq_getElem hlt⟩
      obtain ⟨a, ha, q0, q1⟩ := heads_lit (rhd_below HR.out HB.out) k x hx
      obtain ⟨a', ha', p0, p1⟩ := heads_lit (rhd_below HR'.out HB.out) k x hx
      subst ha ha'
      have hkI : (k : Int) < (hs.length : Int) := by omega
      have hk0 : (0 : Int) ≤ (k : Int) := by omega
      have HLT := Lib.hid hlt
      have HWK1 := Lib.hid (wk1' k _ hlt (by have := HL.out; omega))
      have hwk : wrap64 (k : Int) = (k : Int) := by have := HL.out; unfold wrap64; omega
      have hwk' : IntKind.i64.wrap (k : Int) = (k : Int) := by rw [IntKind.wrap_i64]; unfold wrap64 at hwk; exact hwk
      obtain ⟨xn, hxn⟩ : ∃ xn : ByteArray, xn = ⟨x.1.toArray⟩ := ⟨_, rfl⟩
      obtain ⟨xt, hxt⟩ : ∃ xt : ByteArray, xt = ⟨x.2.toArray⟩ := ⟨_, rfl⟩
      rw [← hxn] at q0 p0
      rw [← hxt] at q1 p1
      have z1 := HZ.out wr HB.out 1 _ rfl
      have y1 := HY.out wr HB.out 1 _ rfl
      have q0' : wr.drew.cell? (a.add (k * 2)) = _ := q0
      have q1' : wr.drew.cell? ⟨(a.add (k * 2)).block, (a.add (k * 2)).off + 1, none⟩ = _ := q1
      have p0' : wr.drew.cell? (a'.add (k * 2)) = _ := p0
      have p1' : wr.drew.cell? ⟨(a'.add (k * 2)).block, (a'.add (k * 2)).off + 1, none⟩ = _ := p1
      have z1' : wr.drew.cell? ⟨w.heap.size, 1, none⟩ = _ := z1
      have y1' : wr.drew.cell? ⟨w.heap.size + 1, 1, none⟩ = _ := y1
      have hq := fun w1 : World => hdr_neq w1 xn xt
      clear hx hlt hk hxn hxt
      go_upto_region 6 with fail
      go_quiet (fail)
      go_wp2_with fail
      go_roundw
      case rel => exact ⟨k + 1, HLT.out, by first | rfl | (rw [HWK1.out]; rfl), Lib.hid (HB.out.trans ((below_drewN _ _).mono HB.out.size))⟩
      case measure => first | exact less1 HLT.out | (rw [HWK1.out]; exact less1 HLT.out)
    · have hk2 : k = hs.length := by omega
      subst hk2
      clear hlt hk
      go_wp2_with fail
      go_ret
      exact ⟨rfl, HB0.out.trans (HB.out.mono HB0.out.size)⟩
end Go.Proofs.YtfpdmgmolhddnaaDoor
