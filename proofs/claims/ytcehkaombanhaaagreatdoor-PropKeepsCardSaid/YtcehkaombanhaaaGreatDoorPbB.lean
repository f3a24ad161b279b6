/- Layer 7: prop.Get. -/
import Derived.Test.YtcehkaombanhaaaGreatDoorPbA
namespace Go.Proofs.YtcehkaombanhaaaGreatDoor
open Go Go.RowKit
open Go.ChangeShapes Go.WideShapes Go.Deep Go.Sort
set_option linter.unusedSimpArgs false
set_option linter.unusedVariables false

def Prp.val (p : Prp) : Val := ⟨p.k, p.n, p.t, p.r⟩
/-- The value of a name. -/
def getP : List Prp → ByteArray → Option Val
  | [], _ => none
  | p :: l, nm => if p.nm = nm then some p.val else getP l nm
def noV : Val := ⟨0, 0, ByteArray.empty, 0⟩
theorem getP_drop {ps : List Prp} {k : Nat} {p : Prp} (h : ps[k]? = some p) (nm : ByteArray) : getP (ps.drop k) nm = if p.nm = nm then some p.val else getP (ps.drop (k + 1)) nm := by
  have hl := (List.getElem?_eq_some_iff.1 h).1
  rw [List.drop_eq_getElem_cons hl]
  rw [List.getElem?_eq_getElem hl] at h
  injection h with h
  rw [h]
  rfl
theorem wk1 (k n : Nat) (h : k < n) (hn : n ≤ 9223372036854775807) : wrap64 ((k : Int) + 1) = (k : Int) + 1 := by unfold wrap64; omega
theorem results_cell_u {P : Program} {fn : Func} {p u : Tmp} {ty : TypeId} (h : fn.results = #[.cell p ty, .tmp u]) (tmps : Array Value) (w : World) (g : Nat) (t : TypeId) (cs : Array Value) (fr : Nat × Nat) (d : TypeDesc)
    (hp : tmps.getD p undef = .pointer (some ⟨g, 0, none⟩)) (hg : w.heap[g]? = some (.cells cs t fr))
    (hu : P.underlying ty = some d) (hd : (match d with | .struct _ | .array _ _ => true | _ => false) = true) (hi : (P.info? ty).map (·.size) = some cs.size) :
    (results fn tmps).run P w = .ok (.tuple #[.agg cs, tmps.getD u undef]) w := by
  have hp' : tmps[p]?.getD undef = .pointer (some ⟨g, 0, none⟩) := by simpa using hp
  simp [results, h, hp', asAddr, run_loadVar_row w g t ty cs fr d hg hu hd hi]
theorem cells4_at {w : World} {g : Nat} {t : TypeId} {c0 c1 c2 c3 : Value} {fr : Nat × Nat} (h : w.heap[g]? = some (.cells #[c0, c1, c2, c3] t fr)) (a b c d : Value) : ((((w.setCell ⟨g, 0, none⟩ a).setCell ⟨g, 1, none⟩ b).setCell ⟨g, 2, none⟩ c).setCell ⟨g, 3, none⟩ d).heap[g]? = some (.cells #[a, b, c, d] t fr) := by
  simp [World.setCell, Array.getElem?_modify, h]
theorem below4 {B : Nat} {w w1 : World} (h : Below B w w1) {g : Nat} (hg : B ≤ g) (a b c d : Value) : Below B w ((((w1.setCell ⟨g, 0, none⟩ a).setCell ⟨g, 1, none⟩ b).setCell ⟨g, 2, none⟩ c).setCell ⟨g, 3, none⟩ d) :=
  (((h.setCell hg a).setCell hg b).setCell hg c).setCell hg d
theorem val_end {fn : Func} {p u : Tmp} (h : fn.results = #[.cell p 24, .tmp u]) {R : Ending → World → Prop} {a : Act} {w : World} {g : Nat} {t : TypeId} {c0 c1 c2 c3 : Value} {fr : Nat × Nat} (d0 d1 d2 d3 : Value)
    (hg : w.heap[g]? = some (.cells #[c0, c1, c2, c3] t fr)) (hp : a.tmps.getD p undef = .pointer (some ⟨g, 0, none⟩)) (hd : a.defers = [])
    (hR : R (.returned (.tuple #[.agg #[d0, d1, d2, d3], a.tmps.getD u undef])) ((((w.setCell ⟨g, 0, none⟩ d0).setCell ⟨g, 1, none⟩ d1).setCell ⟨g, 2, none⟩ d2).setCell ⟨g, 3, none⟩ d3)) : bodyPost Tryz.prog fn R .ret a ((((w.setCell ⟨g, 0, none⟩ d0).setCell ⟨g, 1, none⟩ d1).setCell ⟨g, 2, none⟩ d2).setCell ⟨g, 3, none⟩ d3) :=
  bodyPost_ret (results_cell_u h _ _ g t _ fr _ hp (cells4_at hg d0 d1 d2 d3) Tryz.underlying24 rfl (by kernel_rfl)) hd hR
theorem new_frozen {w : World} {cs : Array Value} {t : TypeId} (j : Nat) : (w.alloc (.cells cs t)).frozen? ⟨w.heap.size, j, none⟩ = false :=
  frozen_of_row _ _ j cs t (heap_alloc_new w _)

set_option maxRecDepth 100000 in
set_option maxHeartbeats 2000000 in
theorem get_c {w : World} {v : Value} {ps : List Prp} (nm : ByteArray) (hp : RPr w v ps) :
    Calls Tryz.prog 18 #[v, .string nm] w fun e w' => e = .returned (.tuple #[((getP ps nm).getD noV).v, .bool (getP ps nm).isSome]) ∧ Below w.heap.size w w' := by
  have h63 : ps.length ≤ 9223372036854775807 := by obtain ⟨_, _, _, h1, h2, _⟩ := id hp; omega
  obtain ⟨A, c, rfl, hnc, hcell⟩ := props_at hp
  have HC := Lib.hid hcell
  have qs := store_float (P := Tryz.prog)
  obtain ⟨r, hr⟩ : ∃ r, r = getP ps nm := ⟨_, rfl⟩
  rw [← hr]
  have HR := Lib.hid hr
  have H63 := Lib.hid h63
  have hnew := heap_alloc_new w (.cells #[.int .i64 0, .int .i64 0, .string ⟨#[]⟩, .float .f64 0] 24)
  have b0 := (Below.refl w.heap.size w).alloc (Nat.le_refl _) (.cells #[.int .i64 0, .int .i64 0, .string ⟨#[]⟩, .float .f64 0] 24)
  have hsz : w.heap.size < (w.alloc (.cells #[.int .i64 0, .int .i64 0, .string ⟨#[]⟩, .float .f64 0] 24)).heap.size := by simp
  obtain ⟨W, hW⟩ : ∃ W, W = w.alloc (.cells #[.int .i64 0, .int .i64 0, .string ⟨#[]⟩, .float .f64 0] 24) := ⟨_, rfl⟩
  rw [← hW] at hnew b0 hsz
  have HW := Lib.hid hW
  have HNEW := Lib.hid hnew
  clear hcell hp hr h63 hW hnew
  unfold Val.v
  go_enter Tryz.func18, Tryz.ntmps18
  go_upto_region 1 with fail
  rw [← HW.out]
  go_wp2_with fail
  go_loopw [10] (fun i wr => ∃ k : Nat, k ≤ ps.length ∧ i = .int .i64 k ∧ Hid (r = getP (ps.drop k) nm) ∧ Below W.heap.size W wr) (fun i _ => ps.length - (intOf i).toNat)
  case atStart => exact ⟨0, Nat.zero_le _, rfl, HR, Below.refl _ _⟩
  case round =>
    obtain ⟨k, hk, rfl, HI, b2⟩ := hrel
    have hbw : Below w.heap.size w wr := b0.trans (b2.mono b0.size)
    have HBW := Lib.hid hbw
    have hrow := (b2.block _ hsz).trans HNEW.out
    by_cases hlt : k < ps.length
    · obtain ⟨p, hp⟩ : ∃ p, ps[k]? = some p := ⟨_, List.getElem?_eq_getElem hlt⟩
      obtain ⟨a, rfl, q0, q1, q2, q3, q4⟩ := HC.out k p hp
      have p0 := cell_below hbw (World.block_lt_of_cell? w _ q0) q0
      have p1 := cell_below hbw (World.block_lt_of_cell? w _ q1) q1
      have p2 := cell_below hbw (World.block_lt_of_cell? w _ q2) q2
      have p3 := cell_below hbw (World.block_lt_of_cell? w _ q3) q3
      have p4 := cell_below hbw (World.block_lt_of_cell? w _ q4) q4
      have hgd := getP_drop hp nm
      rw [← HI.out] at hgd
      have b3 := b2.alloc b2.size (.cells #[.string p.nm, .int .i64 p.k, .int .i64 p.n, .string p.t, .float .f64 p.r] 32)
      have b4 := hbw.alloc hbw.size (.cells #[.string p.nm, .int .i64 p.k, .int .i64 p.n, .string p.t, .float .f64 p.r] 32)
      obtain ⟨W2, hW2⟩ : ∃ W2, W2 = wr.alloc (.cells #[.string p.nm, .int .i64 p.k, .int .i64 p.n, .string p.t, .float .f64 p.r] 32) := ⟨_, rfl⟩
      have z0 : W2.cell? ⟨wr.heap.size, 0, none⟩ = some (.string p.nm) := by rw [hW2]; exact new_cell 0 _ rfl
      have z1 : W2.cell? ⟨wr.heap.size, 1, none⟩ = some (.int .i64 p.k) := by rw [hW2]; exact new_cell 1 _ rfl
      have z2 : W2.cell? ⟨wr.heap.size, 2, none⟩ = some (.int .i64 p.n) := by rw [hW2]; exact new_cell 2 _ rfl
      have z3 : W2.cell? ⟨wr.heap.size, 3, none⟩ = some (.string p.t) := by rw [hW2]; exact new_cell 3 _ rfl
      have z4 : W2.cell? ⟨wr.heap.size, 4, none⟩ = some (.float .f64 p.r) := by rw [hW2]; exact new_cell 4 _ rfl
      rw [← hW2] at b3 b4
      have hrow2 : W2.heap[w.heap.size]? = some (.cells #[.int .i64 0, .int .i64 0, .string ⟨#[]⟩, .float .f64 0] 24 (0, 0)) := (b3.block _ hsz).trans HNEW.out
      have y : ∀ j, W2.frozen? ⟨w.heap.size, j, none⟩ = false := fun j => frozen_of_row _ _ j _ _ hrow2
      have x0 : W2.cell? ⟨w.heap.size, 0, none⟩ = some (.int .i64 0) := by simp only [World.cell?, hrow2]; rfl
      have x1 : W2.cell? ⟨w.heap.size, 1, none⟩ = some (.int .i64 0) := by simp only [World.cell?, hrow2]; rfl
      have x2 : W2.cell? ⟨w.heap.size, 2, none⟩ = some (.string ⟨#[]⟩) := by simp only [World.cell?, hrow2]; rfl
      have x3 : W2.cell? ⟨w.heap.size, 3, none⟩ = some (.float .f64 0) := by simp only [World.cell?, hrow2]; rfl
      have hne : w.heap.size ≠ wr.heap.size := Nat.ne_of_lt (Nat.lt_of_lt_of_le hsz b2.size)
      have hne' : wr.heap.size ≠ w.heap.size := Ne.symm hne
      have HW2 := Lib.hid hW2
      have HROW := Lib.hid hrow2
      have B4 := Lib.hid b4
      have HGD := Lib.hid hgd
      clear hp q0 q1 q2 q3 q4 hgd hW2 hrow2 hrow b2 b4 hbw
      by_cases hnm : p.nm = nm
      · have hr' : r = some p.val := by rw [HGD.out, if_pos hnm]
        subst hr'
        rw [hnm] at z0 p0 HW2
        have HNM := Lib.hid hnm
        clear hnm HGD HI b3
        go_upto_region 4 with fail
        rw [← HW2.out]
        go_wp2_with fail
        refine val_end (w := W2) (g := w.heap.size) rfl _ _ _ _ HROW.out rfl rfl ?_
        exact ⟨rfl, below4 B4.out (Nat.le_refl _) _ _ _ _⟩
      · have hnb := str_ne hnm
        have hr' : r = getP (ps.drop (k + 1)) nm := by rw [HGD.out, if_neg hnm]
        have HN := Lib.hid hr'
        have HWK := Lib.hid (wk1 k _ hlt H63.out)
        have HLT := Lib.hid hlt
        clear hnm hr' HGD HI
        go_upto_region 4 with fail
        rw [← HW2.out]
        go_wp2_with fail
        go_roundw
        case rel => exact ⟨k + 1, HLT.out, by rw [HWK.out]; rfl, HN, b3⟩
        case measure => rw [HWK.out]; exact round_less1 HLT.out
    · have hk2 : k = ps.length := by omega
      subst hk2
      have hr' : r = none := by rw [HI.out, List.drop_length]; rfl
      subst hr'
      have y : ∀ j, wr.frozen? ⟨w.heap.size, j, none⟩ = false := fun j => frozen_of_row _ _ j _ _ hrow
      have x0 : wr.cell? ⟨w.heap.size, 0, none⟩ = some (.int .i64 0) := by simp only [World.cell?, hrow]; rfl
      have x1 : wr.cell? ⟨w.heap.size, 1, none⟩ = some (.int .i64 0) := by simp only [World.cell?, hrow]; rfl
      have x2 : wr.cell? ⟨w.heap.size, 2, none⟩ = some (.string ⟨#[]⟩) := by simp only [World.cell?, hrow]; rfl
      have x3 : wr.cell? ⟨w.heap.size, 3, none⟩ = some (.float .f64 0) := by simp only [World.cell?, hrow]; rfl
      have HROW := Lib.hid hrow
      clear hlt hrow hbw HI
      go_wp2_with fail
      refine val_end (w := wr) (g := w.heap.size) rfl _ _ _ _ HROW.out rfl rfl ?_
      exact ⟨rfl, below4 HBW.out (Nat.le_refl _) _ _ _ _⟩
end Go.Proofs.YtcehkaombanhaaaGreatDoor
