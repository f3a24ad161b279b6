/- Layer 7: prop.place, prop.Get. -/
import Derived.Test.YtcehkaombanhaaaGreatDoorSkp
import Derived.Test.YtcehkaombanhaaaGreatDoorPaP
namespace Go.Proofs.YtcehkaombanhaaaGreatDoor
open Go Go.RowKit
open Go.ChangeShapes Go.WideShapes Go.Deep Go.Sort
set_option linter.unusedSimpArgs false
set_option linter.unusedVariables false

set_option maxRecDepth 100000 in
theorem placeF_c {w : World} (x : Prp) (nm : ByteArray) : Calls Tryz.prog 75 #[.agg #[.string x.nm, .int .i64 x.k, .int .i64 x.n, .string x.t, .float .f64 x.r], .string nm] w fun e w' => e = .returned (.int .i64 (Lib.compareBytes x.nm.data.toList nm.data.toList)) ∧ Below w.heap.size w w' := by
  go_enter Tryz.func75, Tryz.ntmps75
  go_wp2_with fail
  refine (Tryz.strings_Compare x.nm nm _).mono ?_
  rintro e w' ⟨rfl, rfl⟩
  go_wp2_with fail
  go_ret
  exact ⟨rfl, (Below.refl _ _).alloc (Nat.le_refl _) _⟩

/-- Is the name at this place? -/
def foundB (ps : List Prp) (i : Nat) (nm : ByteArray) : Bool := ((ps[i]?).map fun x => decide (x.nm = nm)).getD false
/-- All ahead of i are less, none behind. -/
def PlaceAt (ps : List Prp) (nm : ByteArray) (i : Nat) : Prop :=
  i ≤ ps.length ∧ (∀ (q : Nat) (x : Prp), q < i → ps[q]? = some x → Lib.compareBytes x.nm.data.toList nm.data.toList < 0) ∧ (∀ (q : Nat) (x : Prp), i ≤ q → ps[q]? = some x → 0 ≤ Lib.compareBytes x.nm.data.toList nm.data.toList)
def PlMono (ps : List Prp) (nm : ByteArray) : Prop := ∀ (a b : Nat) (x y : Prp), a ≤ b → ps[a]? = some x → ps[b]? = some y → Lib.compareBytes y.nm.data.toList nm.data.toList < 0 → Lib.compareBytes x.nm.data.toList nm.data.toList < 0

theorem half_u (i j n : Nat) (hij : i < j) (hj : j ≤ n) (hn : n ≤ 1099511627776) : IntKind.u64.wrap ((i : Int) + (j : Int)) = (i : Int) + (j : Int) := by rw [IntKind.wrap_u64]; omega
theorem half_i (i j n : Nat) (hij : i < j) (hj : j ≤ n) (hn : n ≤ 1099511627776) : IntKind.i64.wrap ((i : Int) + (j : Int)) = (i : Int) + (j : Int) := by rw [IntKind.wrap_i64]; omega
theorem half_d (i j h : Nat) (hh : h = (i + j) / 2) : ((i : Int) + (j : Int)) / 2 = (h : Int) := by omega
theorem half_lt (h n : Nat) (hj : h < n) : (h : Int) < (n : Int) := by omega
theorem half_w (h n : Nat) (hj : h < n) (hn : n ≤ 1099511627776) : wrap64 (h : Int) = (h : Int) := by unfold wrap64; omega
theorem half_w1 (h n : Nat) (hj : h < n) (hn : n ≤ 1099511627776) : wrap64 ((h : Int) + 1) = (h : Int) + 1 := by unfold wrap64; omega

set_option maxRecDepth 100000 in
set_option maxHeartbeats 2000000 in
theorem bsearch_c {w : World} {v : Value} {ps : List Prp} (nm : ByteArray) (hp : RPr w v ps) (hm : PlMono ps nm) (hl : ps.length ≤ 1099511627776) :
    Calls Tryz.prog 74 #[v, .string nm, .func (.func 75) #[] #[]] w fun e w' => ∃ i : Nat, PlaceAt ps nm i ∧ e = .returned (.tuple #[.int .i64 i, .bool (foundB ps i nm)]) ∧ Below w.heap.size w w' := by
  obtain ⟨A, c, rfl, hnc, hcell⟩ := props_at hp
  have HC := Lib.hid hcell
  have HM := Lib.hid hm
  have HL := Lib.hid hl
  clear hcell hm hl hp
  go_enter Tryz.func74, Tryz.ntmps74
  go_wp2_with fail
  go_loopw [9, 10] (fun x y wr => ∃ i j : Nat, x = .int .i64 i ∧ y = .int .i64 j ∧ i ≤ j ∧ j ≤ ps.length ∧ Hid (∀ (q : Nat) (x : Prp), q < i → ps[q]? = some x → Lib.compareBytes x.nm.data.toList nm.data.toList < 0) ∧ Hid (∀ (q : Nat) (x : Prp), j ≤ q → ps[q]? = some x → 0 ≤ Lib.compareBytes x.nm.data.toList nm.data.toList) ∧ Below w.heap.size w wr) (fun x y _ => (intOf y).toNat - (intOf x).toNat)
  case atStart => exact ⟨0, ps.length, rfl, rfl, Nat.zero_le _, Nat.le_refl _, Lib.hid (fun q x h => by omega), Lib.hid (fun q x h1 h2 => by have := (List.getElem?_eq_some_iff.1 h2).1; omega), Below.refl _ _⟩
  case round =>
    obtain ⟨i, j, rfl, rfl, hij, hj, H1, H2, b2⟩ := hrel
    by_cases hlt : i < j
    · obtain ⟨h, hh⟩ : ∃ h, h = (i + j) / 2 := ⟨_, rfl⟩
      have h1 : i ≤ h := by omega
      have h2 : h < j := by omega
      have hI : (i : Int) < j := by omega
      have hu := half_u i j _ hlt hj HL.out
      have hv1 := half_i i j _ hlt hj HL.out
      have hd := half_d i j h hh
      have hw := half_w h _ (Nat.lt_of_lt_of_le h2 hj) HL.out
      have hw1 := half_w1 h _ (Nat.lt_of_lt_of_le h2 hj) HL.out
      have hhn := half_lt h _ (Nat.lt_of_lt_of_le h2 hj)
      obtain ⟨x, hx⟩ : ∃ x, ps[h]? = some x := ⟨_, List.getElem?_eq_getElem (Nat.lt_of_lt_of_le h2 hj)⟩
      obtain ⟨a, rfl, q0, q1, q2, q3, q4⟩ := HC.out h x hx
      have p0 := cell_below b2 (World.block_lt_of_cell? w _ q0) q0
      have p1 := cell_below b2 (World.block_lt_of_cell? w _ q1) q1
      have p2 := cell_below b2 (World.block_lt_of_cell? w _ q2) q2
      have p3 := cell_below b2 (World.block_lt_of_cell? w _ q3) q3
      have p4 := cell_below b2 (World.block_lt_of_cell? w _ q4) q4
      have HF := Lib.hid (fun w => placeF_c (w := w) x nm)
      have HX := Lib.hid hx
      have HM1 := Lib.hid (fun (q : Nat) (y : Prp) (hq : q ≤ h) (hy : ps[q]? = some y) (hc : Lib.compareBytes x.nm.data.toList nm.data.toList < 0) => HM.out q h y x hq hy hx hc)
      have HM2 := Lib.hid (fun (q : Nat) (y : Prp) (hq : h ≤ q) (hy : ps[q]? = some y) (hc : ¬ Lib.compareBytes x.nm.data.toList nm.data.toList < 0) => (show 0 ≤ Lib.compareBytes y.nm.data.toList nm.data.toList from by
        by_cases h0 : Lib.compareBytes y.nm.data.toList nm.data.toList < 0
        · exact absurd (HM.out h q x y hq hx hy h0) hc
        · omega))
      have B2 := Lib.hid b2
      have H3 := Lib.hid hlt
      have H4 := Lib.hid h1
      have H5 := Lib.hid h2
      have H6 := Lib.hid hj
      clear hh hx q0 q1 q2 q3 q4 b2 h1 h2 hij hj hlt
      generalize Lib.compareBytes x.nm.data.toList nm.data.toList = cb at HF HM1 HM2
      go_wp2_with fail
      refine (HF.out _).mono ?_
      rintro e w1 ⟨rfl, b1⟩
      have B3 := B2.out.trans (b1.mono B2.out.size)
      by_cases hcb : cb < 0
      · have HCB := Lib.hid hcb
        go_wp2_with fail
        go_roundw
        case rel => exact ⟨h + 1, j, by first | rfl | (rw [hw1]; rfl), rfl, H5.out, H6.out, Lib.hid (fun q y hq hy => HM1.out q y (by omega) hy HCB.out), H2, B3⟩
        case measure => have := H3.out; have := H4.out; have := H5.out; first | (rw [hw1]; simp only [intOf]; omega) | (simp only [intOf]; omega)
      · have hcb' : 0 ≤ cb := by omega
        have HCB := Lib.hid hcb
        clear hcb
        go_wp2_with fail
        go_roundw
        case rel => exact ⟨i, h, rfl, rfl, H4.out, by have := H5.out; have := H6.out; omega, H1, Lib.hid (fun q y hq hy => HM2.out q y hq hy HCB.out), B3⟩
        case measure => have := H3.out; have := H4.out; have := H5.out; simp only [intOf]; omega
    · obtain rfl : i = j := by omega
      have HP := Lib.hid (show PlaceAt ps nm i from ⟨hj, H1.out, H2.out⟩)
      clear hlt hij
      by_cases hin : i < ps.length
      · obtain ⟨x, hx⟩ : ∃ x, ps[i]? = some x := ⟨_, List.getElem?_eq_getElem hin⟩
        obtain ⟨a, rfl, q0, q1, q2, q3, q4⟩ := HC.out i x hx
        have p0 := cell_below b2 (World.block_lt_of_cell? w _ q0) q0
        have p1 := cell_below b2 (World.block_lt_of_cell? w _ q1) q1
        have p2 := cell_below b2 (World.block_lt_of_cell? w _ q2) q2
        have p3 := cell_below b2 (World.block_lt_of_cell? w _ q3) q3
        have p4 := cell_below b2 (World.block_lt_of_cell? w _ q4) q4
        have HF := Lib.hid (fun w => placeF_c (w := w) x nm)
        have hfb : foundB ps i nm = (Lib.compareBytes x.nm.data.toList nm.data.toList == 0) := by
          unfold foundB
          rw [hx]
          show decide (x.nm = nm) = _
          by_cases he : x.nm = nm
          · rw [he, decide_eq_true rfl, (cb_zero _ _).2 rfl]; rfl
          · rw [decide_eq_false he]
            exact (beq_eq_false_iff_ne.2 fun h => he (ba_ext ((cb_zero _ _).1 h))).symm
        have hinI : (i : Int) < (ps.length : Int) := by omega
        have HFB := Lib.hid hfb
        clear hx q0 q1 q2 q3 q4 hfb hin hj
        generalize Lib.compareBytes x.nm.data.toList nm.data.toList = cb at HF HFB
        go_wp2_with fail
        refine (HF.out _).mono ?_
        rintro e w1 ⟨rfl, b1⟩
        have B3 := b2.trans (b1.mono b2.size)
        go_wp2_with fail
        go_ret2
        exact ⟨i, HP.out, by rw [HFB.out]; rfl, B3⟩
      · obtain rfl : i = ps.length := by omega
        have hfb : foundB ps ps.length nm = false := by unfold foundB; rw [List.getElem?_eq_none (Nat.le_refl _)]; rfl
        have HFB := Lib.hid hfb
        clear hfb hin hj
        go_wp2_with fail
        go_ret2
        exact ⟨ps.length, HP.out, by rw [HFB.out]; rfl, b2⟩

set_option maxRecDepth 100000 in
theorem place_c {w : World} {v : Value} {ps : List Prp} (nm : ByteArray) (hp : RPr w v ps) (hm : PlMono ps nm) (hl : ps.length ≤ 1099511627776) :
    Calls Tryz.prog 43 #[v, .string nm] w fun e w' => ∃ i : Nat, PlaceAt ps nm i ∧ e = .returned (.tuple #[.int .i64 i, .bool (foundB ps i nm)]) ∧ Below w.heap.size w w' := by
  have HB := Lib.hid (bsearch_c nm hp hm hl)
  clear hp hm hl
  go_enter Tryz.func43, Tryz.ntmps43
  go_wp2_with fail
  refine (HB.out).mono ?_
  rintro e w1 ⟨i, hi, rfl, b1⟩
  have HI := Lib.hid hi
  clear hi
  go_wp2_with fail
  go_ret2
  exact ⟨i, HI.out, rfl, b1⟩
end Go.Proofs.YtcehkaombanhaaaGreatDoor
