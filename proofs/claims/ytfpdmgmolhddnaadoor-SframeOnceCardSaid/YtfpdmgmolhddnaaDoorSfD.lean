/- Layer 18: a strings.Builder's WriteByte; what is written with backslashes is read: the walks. -/
import Derived.Test.YtfpdmgmolhddnaaDoorSfC
import Derived.Lib.Builder
namespace Go.Proofs.YtfpdmgmolhddnaaDoor
open Go Go.RowKit Go.Sort
open Go.ChangeShapes Go.WideShapes Go.Deep
set_option linter.unusedSimpArgs false
set_option linter.unusedVariables false

theorem rc_any' {w : World} {v : Value} {n s : Nat} {cs : List Value} (h : RC w v n s cs) : ∃ A c, v = .slice A n c := by
  obtain ⟨A, c, rfl, _⟩ := h
  exact ⟨A, c, rfl⟩
theorem bc_one (l : L8) : ∀ y ∈ Lib.byteCells l, y.oneCell' = true := fun y hy => by
  unfold Lib.byteCells at hy
  obtain ⟨x, _, rfl⟩ := List.mem_map.1 hy
  rfl
/-- A builder of the call's own, in block b, of these bytes. -/
def IB (w : World) (B b : Nat) (l : L8) : Prop := Lib.IsBuilder 60 5 B b (Lib.byteCells l) w
set_option maxRecDepth 100000 in
theorem cc_used (b : Nat) (w : World) (h0 : w.cell? ⟨b, 0, none⟩ = some (.pointer (some ⟨b, 0, none⟩))) :
    Calls Tryd.prog 45 #[.pointer (some ⟨b, 0, none⟩)] w fun e w' => e = .returned (.tuple #[]) ∧ w' = w := by
  obtain ⟨j, hj, _⟩ := Option.map_eq_some_iff.1 (show (Tryd.prog.info? 60).map (·.size) = some 2 by kernel_rfl)
  go_enter Tryd.func45, Tryd.ntmps45
  go_wp2
  rw [Lib.run_neq_ptr_same w _ Tryd.underlying57 hj]
  go_wp2
  go_end0
  exact ⟨rfl, rfl⟩
set_option maxRecDepth 100000 in
theorem cc_fresh (b : Nat) (w : World) (h0 : w.cell? ⟨b, 0, none⟩ = some (.pointer none)) (hsh : w.shape? b = some (60, 2)) (hfz : w.frozen? ⟨b, 0, none⟩ = false) :
    Calls Tryd.prog 45 #[.pointer (some ⟨b, 0, none⟩)] w fun e w' => e = .returned (.tuple #[]) ∧ w' = w.setCell ⟨b, 0, none⟩ (.pointer (some ⟨b, 0, none⟩)) := by
  obtain ⟨j, hj, hjs⟩ := Option.map_eq_some_iff.1 (show (Tryd.prog.info? 60).map (·.size) = some 2 by kernel_rfl)
  have hlies : liesAt Tryd.prog Tryd.prog.depth 60 (2 / Tryd.prog.cellsOf 60) 0 60 1 = true := by kernel_rfl
  go_enter Tryd.func45, Tryd.ntmps45
  go_wp2
  rw [Lib.run_to_unsafe w ⟨b, 0, none⟩ Tryd.underlying57 Tryd.underlying86 hj (by rw [hjs]; decide) hsh (Nat.zero_lt_succ 1)]
  simp only [Result.andThen]
  rw [Oper.upon_value]
  go_wp2
  rw [run_callFunc_extern Tryd.func60 (by kernel_rfl) (by kernel_rfl) (by kernel_rfl) (e := Extern.AbiNoEscape.same) (by kernel_rfl)]
  rw [Lib.run_noEscape]
  simp only [Result.andThen]
  rw [Oper.upon_value]
  go_wp2
  rw [Lib.run_from_unsafe w ⟨b, 0, none⟩ Tryd.underlying86 Tryd.underlying57 hj hsh hlies]
  simp only [Result.andThen]
  rw [Oper.upon_value]
  go_wp2
  go_end0
  exact ⟨rfl, rfl⟩
theorem cc_c (B b : Nat) (l : L8) (w : World) (h : IB w B b l) :
    Calls Tryd.prog 45 #[.pointer (some ⟨b, 0, none⟩)] w fun e w' => e = .returned (.tuple #[]) ∧ (Lib.BuilderAt 60 5 B b (.pointer (some ⟨b, 0, none⟩)) (Lib.byteCells l) w' ∧ Below B w w') := by
  rcases h with h | h
  · refine (cc_fresh b w h.cell0 h.shape h.frozen0).mono ?_
    rintro e w' ⟨rfl, rfl⟩
    exact ⟨rfl, h.used _, (Below.refl B w).setCell (p := ⟨b, 0, none⟩) h.1 _⟩
  · refine (cc_used b w h.cell0).mono ?_
    rintro e w' ⟨rfl, rfl⟩
    exact ⟨rfl, h, Below.refl B _⟩
set_option maxRecDepth 100000 in
set_option maxHeartbeats 2000000 in
theorem wbyte_c (B b : Nat) (l : L8) (c : UInt8) (w : World) (h : IB w B b l) (hlen : l.length + 1 ≤ 140737488355328) (hBw : B ≤ w.heap.size) :
    Calls Tryd.prog 30 #[.pointer (some ⟨b, 0, none⟩), .int .u8 c.toNat] w fun e w' => e = .returned .nilIface ∧ IB w' B b (l ++ [c]) ∧ Below B w w' := by
  have HC := Lib.hid (cc_c B b l w h)
  clear h
  go_enter Tryd.func30, Tryd.ntmps30
  go_wp2_with fail
  refine (HC.out).mono ?_
  rintro e w1 ⟨rfl, h1, hb1⟩
  obtain ⟨hB, v, hbk, hown, hne⟩ := h1
  have c0 : w1.cell? ⟨b, 0, none⟩ = some (.pointer (some ⟨b, 0, none⟩)) := by simp only [World.cell?, hbk]; rfl
  have c1 : w1.cell? ⟨b, 1, none⟩ = some v := by simp only [World.cell?, hbk]; rfl
  have hlt : b < w1.heap.size := (Array.getElem?_eq_some_iff.1 hbk).1
  have hbl : (Lib.byteCells l).length = l.length := by simp [Lib.byteCells]
  rw [hbl] at hown
  have HOW := Lib.hid hown
  have HBK := Lib.hid hbk
  have HB1 := Lib.hid hb1
  have HNE := Lib.hid hne
  clear hown hbk hb1 hne HC
  obtain ⟨A1, k1, rfl⟩ := (show ∃ A c, v = .slice A l.length c from by
    rcases HOW.out.2 with ⟨hv, h0⟩ | ⟨g, cap, cur, hv, _⟩
    · exact ⟨none, 0, by rw [hv, h0]⟩
    · exact ⟨_, _, hv⟩)
  clear hbl
  go_wp2_with (at_builtin; go_loud (refine app_own (w0 := w1) B 58 5 1 1 _ Tryd.underlying58 info_u8 rfl (by decide) rfl (.tmp 11) (.tmp 13) rfl (.slice A1 l.length k1) _ l.length 1 (Lib.byteCells l) (Lib.byteCells [c]) rfl rfl (own_below HOW.out ((Below.refl _ _).alloc (Nat.le_refl _) _)) (rb_one w1 c) (bc_one [c]) ((Below.refl _ _).alloc (Nat.le_trans hBw HB1.out.size) _) (by omega) (by omega) (Nat.le_trans (Nat.le_trans hBw HB1.out.size) (by simp)) ?_; intro v5 w5 o5 b5 g5 k5; have O5 := Lib.hid o5; have B5 := Lib.hid b5; have G5 := Lib.hid g5; clear b5 k5; have hb2 : w5.heap[b]? = some (.cells #[.pointer (some ⟨b, 0, none⟩), .slice A1 l.length k1] 60 (0, 0)) := (g5.block b (Nat.lt_of_lt_of_le hlt (by simp)) (fun e => HNE.out e.symm)).trans ((((Below.refl _ _).alloc (Nat.le_refl _) _).block _ hlt).trans HBK.out); have HB2 := Lib.hid hb2; have d0 : w5.cell? ⟨b, 0, none⟩ = some (.pointer (some ⟨b, 0, none⟩)) := (Lib.cell_of_heap hb2 0).trans rfl; have d1 : w5.cell? ⟨b, 1, none⟩ = some (.slice A1 l.length k1) := (Lib.cell_of_heap hb2 1).trans rfl; have f1 : w5.frozen? ⟨b, 1, none⟩ = false := frozen_of_row _ _ 1 _ _ hb2; obtain ⟨A5, c5, rfl⟩ := rc_any' (own_rc o5); clear o5 g5 hb2))
  go_ret
  have hcat : Lib.byteCells l ++ Lib.byteCells [c] = Lib.byteCells (l ++ [c]) := by simp [Lib.byteCells]
  refine ⟨rfl, .inr ?_, ?_⟩
  · refine Lib.BuilderAt.put (T := 60) (e := 5) hB HB2.out (bs' := Lib.byteCells (l ++ [c])) ?_ (by decide)
    rw [← hcat]
    have h5 := O5.out
    have hbl : (Lib.byteCells l).length = l.length := by simp [Lib.byteCells]
    rw [List.length_append, show (Lib.byteCells [c]).length = 1 from rfl, hbl]
    exact h5
  · exact (HB1.out.trans B5.out).setCell (p := ⟨b, 1, none⟩) hB _
end Go.Proofs.YtfpdmgmolhddnaaDoor
