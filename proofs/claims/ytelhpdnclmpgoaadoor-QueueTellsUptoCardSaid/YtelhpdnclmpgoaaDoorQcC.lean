/- Layer 10: New, Len, Holds, long. (Printed by gen/qcc.py.) -/
import Derived.Test.YtelhpdnclmpgoaaDoorQcB
namespace Go.Proofs.YtelhpdnclmpgoaaDoor
open Go Go.RowKit Go.Sort
set_option linter.unusedSimpArgs false
set_option linter.unusedVariables false

def noQ : Que := ⟨⟨#[]⟩, false, 0, 0, 0, [], []⟩
def noR : QuR := ⟨none, 0, [], none, 0, []⟩
theorem no_in (w : World) (q : Que) (h1 : q.items = []) (h2 : q.held = []) : QuIn w q noR :=
  ⟨⟨⟨none, 0, rfl, Nat.le_refl _, by omega, rfl, fun _ => rfl, fun j u h => by simp [noR] at h⟩, fun x h => by cases h⟩, ⟨⟨none, 0, rfl, Nat.le_refl _, by omega, rfl, fun _ => rfl, fun j u h => by simp [noR] at h⟩, fun x h => by cases h⟩, h1.symm, h2.symm⟩
def newQ (nm : ByteArray) (du : Bool) (dp : Int) : Que × Int := if nameB nm then if 1 ≤ dp ∧ dp ≤ 64 then (⟨nm, du, dp, 0, 0, [], []⟩, 0) else (noQ, 1) else (noQ, 31)
theorem results_cell_u {P : Program} {fn : Func} {p u : Tmp} {ty : TypeId} (h : fn.results = #[.cell p ty, .tmp u]) (tmps : Array Value) (w : World) (g : Nat) (t : TypeId) (cs : Array Value) (fr : Nat × Nat) (d : TypeDesc)
    (hp : tmps.getD p undef = .pointer (some ⟨g, 0, none⟩)) (hg : w.heap[g]? = some (.cells cs t fr))
    (hu : P.underlying ty = some d) (hd : (match d with | .struct _ | .array _ _ => true | _ => false) = true) (hi : (P.info? ty).map (·.size) = some cs.size) :
    (results fn tmps).run P w = .ok (.tuple #[.agg cs, tmps.getD u undef]) w := by
  have hp' : tmps[p]?.getD undef = .pointer (some ⟨g, 0, none⟩) := by simpa using hp
  simp [results, h, hp', asAddr, run_loadVar_row w g t ty cs fr d hg hu hd hi]
theorem cells7_at {w : World} {g : Nat} {t : TypeId} {c0 c1 c2 c3 c4 c5 c6 : Value} {fr : Nat × Nat} (h : w.heap[g]? = some (.cells #[c0, c1, c2, c3, c4, c5, c6] t fr)) (a b c d e f i : Value) : (((((((w.setCell ⟨g, 0, none⟩ a).setCell ⟨g, 1, none⟩ b).setCell ⟨g, 2, none⟩ c).setCell ⟨g, 3, none⟩ d).setCell ⟨g, 4, none⟩ e).setCell ⟨g, 5, none⟩ f).setCell ⟨g, 6, none⟩ i).heap[g]? = some (.cells #[a, b, c, d, e, f, i] t fr) := by
  simp [World.setCell, Array.getElem?_modify, h]
theorem below7 {B : Nat} {w w1 : World} (h : Below B w w1) {g : Nat} (hg : B ≤ g) (a b c d e f i : Value) : Below B w (((((((w1.setCell ⟨g, 0, none⟩ a).setCell ⟨g, 1, none⟩ b).setCell ⟨g, 2, none⟩ c).setCell ⟨g, 3, none⟩ d).setCell ⟨g, 4, none⟩ e).setCell ⟨g, 5, none⟩ f).setCell ⟨g, 6, none⟩ i) :=
  ((((((h.setCell hg a).setCell hg b).setCell hg c).setCell hg d).setCell hg e).setCell hg f).setCell hg i
theorem queue_end {fn : Func} {p u : Tmp} (h : fn.results = #[.cell p 25, .tmp u]) {R : Ending → World → Prop} {a : Act} {w : World} {g : Nat} {t : TypeId} {c0 c1 c2 c3 c4 c5 c6 : Value} {fr : Nat × Nat} (d0 d1 d2 d3 d4 d5 d6 : Value)
    (hg : w.heap[g]? = some (.cells #[c0, c1, c2, c3, c4, c5, c6] t fr)) (hp : a.tmps.getD p undef = .pointer (some ⟨g, 0, none⟩)) (hd : a.defers = [])
    (hR : R (.returned (.tuple #[.agg #[d0, d1, d2, d3, d4, d5, d6], a.tmps.getD u undef])) (((((((w.setCell ⟨g, 0, none⟩ d0).setCell ⟨g, 1, none⟩ d1).setCell ⟨g, 2, none⟩ d2).setCell ⟨g, 3, none⟩ d3).setCell ⟨g, 4, none⟩ d4).setCell ⟨g, 5, none⟩ d5).setCell ⟨g, 6, none⟩ d6)) : bodyPost Tryd.prog fn R .ret a (((((((w.setCell ⟨g, 0, none⟩ d0).setCell ⟨g, 1, none⟩ d1).setCell ⟨g, 2, none⟩ d2).setCell ⟨g, 3, none⟩ d3).setCell ⟨g, 4, none⟩ d4).setCell ⟨g, 5, none⟩ d5).setCell ⟨g, 6, none⟩ d6) :=
  bodyPost_ret (results_cell_u h _ _ g t _ fr _ hp (cells7_at hg d0 d1 d2 d3 d4 d5 d6) Tryd.underlying25 rfl (by kernel_rfl)) hd hR
theorem new_frozen {w : World} {cs : Array Value} {t : TypeId} (j : Nat) : (w.alloc (.cells cs t)).frozen? ⟨w.heap.size, j, none⟩ = false :=
  frozen_of_row _ _ j cs t (heap_alloc_new w _)

theorem refNameB_c {w : World} (nm : ByteArray) (hs : nm.size ≤ 140737488351232) : Calls Tryd.prog 30 #[.string nm] w fun e w' => e = .returned (.bool (nameB nm)) ∧ Below w.heap.size w w' :=
  (refName_c nm hs).mono fun e w' ⟨h1, h2⟩ => ⟨h1, h2 ▸ Below.refl _ _⟩

set_option maxRecDepth 100000 in
set_option maxHeartbeats 1000000 in
theorem new_c {w : World} (nm : ByteArray) (du : Bool) (dp : Int) (hs : nm.size ≤ 140737488351232) :
    Calls Tryd.prog 10 #[.string nm, .bool du, .int .i64 dp] w fun e w' => e = .returned (.tuple #[.agg #[.string (newQ nm du dp).1.name, .bool (newQ nm du dp).1.dur, .int .i64 (newQ nm du dp).1.depth, .int .i64 (newQ nm du dp).1.seq, .int .i64 (newQ nm du dp).1.tag, .slice none 0 0, .slice none 0 0], .int .i64 (newQ nm du dp).2]) ∧ Below w.heap.size w w' := by
  have HN := Lib.hid (name_c (w := w.alloc (.cells #[.string ByteArray.empty, .bool false, .int .i64 0, .int .i64 0, .int .i64 0, .slice none 0 0, .slice none 0 0] 25)) nm hs)
  have b0 := (Below.refl w.heap.size w).alloc (Nat.le_refl _) (.cells #[.string ByteArray.empty, .bool false, .int .i64 0, .int .i64 0, .int .i64 0, .slice none 0 0, .slice none 0 0] 25)
  have z : ∀ j u, (#[.string ByteArray.empty, .bool false, .int .i64 0, .int .i64 0, .int .i64 0, .slice none 0 0, .slice none 0 0] : Array Value)[j]? = some u → (w.alloc (.cells #[.string ByteArray.empty, .bool false, .int .i64 0, .int .i64 0, .int .i64 0, .slice none 0 0, .slice none 0 0] 25)).cell? ⟨w.heap.size, j, none⟩ = some u := fun j u hj => new_cell j u hj
  have y : ∀ j, (w.alloc (.cells #[.string ByteArray.empty, .bool false, .int .i64 0, .int .i64 0, .int .i64 0, .slice none 0 0, .slice none 0 0] 25)).frozen? ⟨w.heap.size, j, none⟩ = false := fun j => new_frozen j
  have hz : w.heap.size < (w.alloc (.cells #[.string ByteArray.empty, .bool false, .int .i64 0, .int .i64 0, .int .i64 0, .slice none 0 0, .slice none 0 0] 25)).heap.size := by show _ < (Array.push _ _).size; simp
  obtain ⟨r, hr⟩ : ∃ r, r = newQ nm du dp := ⟨_, rfl⟩
  have HR := Lib.hid hr
  rw [← hr]
  clear hr
  cases hn : nameB nm with
  | false =>
    rw [hn] at HN
    obtain rfl : r = (noQ, 31) := by rw [HR.out]; unfold newQ; rw [hn]; rfl
    try dsimp only [noQ]
    go_enter Tryd.func10, Tryd.ntmps10
    go_wp2_with fail
    refine (HN.out).mono ?_
    rintro e w1 ⟨rfl, b1⟩
    have z0 := cell_below b1 hz (z 0 _ rfl)
    have z1 := cell_below b1 hz (z 1 _ rfl)
    have z2 := cell_below b1 hz (z 2 _ rfl)
    have z3 := cell_below b1 hz (z 3 _ rfl)
    have z4 := cell_below b1 hz (z 4 _ rfl)
    have z5 := cell_below b1 hz (z 5 _ rfl)
    have z6 := cell_below b1 hz (z 6 _ rfl)
    have f0 : ∀ j, w1.frozen? ⟨w.heap.size, j, none⟩ = false := fun j => (b1.frozen (p := ⟨w.heap.size, j, none⟩) hz).trans (y j)
    have B1 := Lib.hid (b0.trans (b1.mono b0.size))
    have G1 := Lib.hid ((b1.block w.heap.size hz).trans (heap_alloc_new w (.cells #[.string ByteArray.empty, .bool false, .int .i64 0, .int .i64 0, .int .i64 0, .slice none 0 0, .slice none 0 0] 25)))
    clear b1 z b0 HN hn y hz HR
    go_wp2_with fail
    refine queue_end (w := w1) (g := w.heap.size) rfl _ _ _ _ _ _ _ G1.out rfl rfl ?_
    exact ⟨rfl, below7 B1.out (Nat.le_refl _) _ _ _ _ _ _ _⟩
  | true =>
    rw [hn] at HN
    by_cases h1 : 1 ≤ dp
    · by_cases h2 : dp ≤ 64
      · obtain rfl : r = (⟨nm, du, dp, 0, 0, [], []⟩, 0) := by rw [HR.out]; unfold newQ; rw [hn, if_pos rfl, if_pos ⟨h1, h2⟩]
        try dsimp only [noQ]
        go_enter Tryd.func10, Tryd.ntmps10
        go_wp2_with fail
        refine (HN.out).mono ?_
        rintro e w1 ⟨rfl, b1⟩
        have z0 := cell_below b1 hz (z 0 _ rfl)
        have z1 := cell_below b1 hz (z 1 _ rfl)
        have z2 := cell_below b1 hz (z 2 _ rfl)
        have z3 := cell_below b1 hz (z 3 _ rfl)
        have z4 := cell_below b1 hz (z 4 _ rfl)
        have z5 := cell_below b1 hz (z 5 _ rfl)
        have z6 := cell_below b1 hz (z 6 _ rfl)
        have f0 : ∀ j, w1.frozen? ⟨w.heap.size, j, none⟩ = false := fun j => (b1.frozen (p := ⟨w.heap.size, j, none⟩) hz).trans (y j)
        have B1 := Lib.hid (b0.trans (b1.mono b0.size))
        have G1 := Lib.hid ((b1.block w.heap.size hz).trans (heap_alloc_new w (.cells #[.string ByteArray.empty, .bool false, .int .i64 0, .int .i64 0, .int .i64 0, .slice none 0 0, .slice none 0 0] 25)))
        clear b1 z b0 HN hn y hz HR
        go_wp2_with fail
        refine queue_end (w := w1) (g := w.heap.size) rfl _ _ _ _ _ _ _ G1.out rfl rfl ?_
        exact ⟨rfl, below7 B1.out (Nat.le_refl _) _ _ _ _ _ _ _⟩
      · obtain rfl : r = (noQ, 1) := by rw [HR.out]; unfold newQ; rw [hn, if_pos rfl, if_neg (fun h => h2 h.2)]
        have h2' : 64 < dp := by omega
        clear h2
        try dsimp only [noQ]
        go_enter Tryd.func10, Tryd.ntmps10
        go_wp2_with fail
        refine (HN.out).mono ?_
        rintro e w1 ⟨rfl, b1⟩
        have z0 := cell_below b1 hz (z 0 _ rfl)
        have z1 := cell_below b1 hz (z 1 _ rfl)
        have z2 := cell_below b1 hz (z 2 _ rfl)
        have z3 := cell_below b1 hz (z 3 _ rfl)
        have z4 := cell_below b1 hz (z 4 _ rfl)
        have z5 := cell_below b1 hz (z 5 _ rfl)
        have z6 := cell_below b1 hz (z 6 _ rfl)
        have f0 : ∀ j, w1.frozen? ⟨w.heap.size, j, none⟩ = false := fun j => (b1.frozen (p := ⟨w.heap.size, j, none⟩) hz).trans (y j)
        have B1 := Lib.hid (b0.trans (b1.mono b0.size))
        have G1 := Lib.hid ((b1.block w.heap.size hz).trans (heap_alloc_new w (.cells #[.string ByteArray.empty, .bool false, .int .i64 0, .int .i64 0, .int .i64 0, .slice none 0 0, .slice none 0 0] 25)))
        clear b1 z b0 HN hn y hz HR
        go_wp2_with fail
        refine queue_end (w := w1) (g := w.heap.size) rfl _ _ _ _ _ _ _ G1.out rfl rfl ?_
        exact ⟨rfl, below7 B1.out (Nat.le_refl _) _ _ _ _ _ _ _⟩
    · obtain rfl : r = (noQ, 1) := by rw [HR.out]; unfold newQ; rw [hn, if_pos rfl, if_neg (fun h => h1 h.1)]
      have h1' : dp < 1 := by omega
      clear h1
      try dsimp only [noQ]
      go_enter Tryd.func10, Tryd.ntmps10
      go_wp2_with fail
      refine (HN.out).mono ?_
      rintro e w1 ⟨rfl, b1⟩
      have z0 := cell_below b1 hz (z 0 _ rfl)
      have z1 := cell_below b1 hz (z 1 _ rfl)
      have z2 := cell_below b1 hz (z 2 _ rfl)
      have z3 := cell_below b1 hz (z 3 _ rfl)
      have z4 := cell_below b1 hz (z 4 _ rfl)
      have z5 := cell_below b1 hz (z 5 _ rfl)
      have z6 := cell_below b1 hz (z 6 _ rfl)
      have f0 : ∀ j, w1.frozen? ⟨w.heap.size, j, none⟩ = false := fun j => (b1.frozen (p := ⟨w.heap.size, j, none⟩) hz).trans (y j)
      have B1 := Lib.hid (b0.trans (b1.mono b0.size))
      have G1 := Lib.hid ((b1.block w.heap.size hz).trans (heap_alloc_new w (.cells #[.string ByteArray.empty, .bool false, .int .i64 0, .int .i64 0, .int .i64 0, .slice none 0 0, .slice none 0 0] 25)))
      clear b1 z b0 HN hn y hz HR
      go_wp2_with fail
      refine queue_end (w := w1) (g := w.heap.size) rfl _ _ _ _ _ _ _ G1.out rfl rfl ?_
      exact ⟨rfl, below7 B1.out (Nat.le_refl _) _ _ _ _ _ _ _⟩


set_option maxRecDepth 100000 in
set_option maxHeartbeats 1000000 in
theorem refNew_c {w : World} (nm : ByteArray) (du : Bool) (dp : Int) (hs : nm.size ≤ 140737488351232) :
    Calls Tryd.prog 11 #[.string nm, .bool du, .int .i64 dp] w fun e w' => e = .returned (.tuple #[.agg #[.string (newQ nm du dp).1.name, .bool (newQ nm du dp).1.dur, .int .i64 (newQ nm du dp).1.depth, .int .i64 (newQ nm du dp).1.seq, .int .i64 (newQ nm du dp).1.tag, .slice none 0 0, .slice none 0 0], .int .i64 (newQ nm du dp).2]) ∧ Below w.heap.size w w' := by
  have HN := Lib.hid (refNameB_c (w := w.alloc (.cells #[.string ByteArray.empty, .bool false, .int .i64 0, .int .i64 0, .int .i64 0, .slice none 0 0, .slice none 0 0] 25)) nm hs)
  have b0 := (Below.refl w.heap.size w).alloc (Nat.le_refl _) (.cells #[.string ByteArray.empty, .bool false, .int .i64 0, .int .i64 0, .int .i64 0, .slice none 0 0, .slice none 0 0] 25)
  have z : ∀ j u, (#[.string ByteArray.empty, .bool false, .int .i64 0, .int .i64 0, .int .i64 0, .slice none 0 0, .slice none 0 0] : Array Value)[j]? = some u → (w.alloc (.cells #[.string ByteArray.empty, .bool false, .int .i64 0, .int .i64 0, .int .i64 0, .slice none 0 0, .slice none 0 0] 25)).cell? ⟨w.heap.size, j, none⟩ = some u := fun j u hj => new_cell j u hj
  have y : ∀ j, (w.alloc (.cells #[.string ByteArray.empty, .bool false, .int .i64 0, .int .i64 0, .int .i64 0, .slice none 0 0, .slice none 0 0] 25)).frozen? ⟨w.heap.size, j, none⟩ = false := fun j => new_frozen j
  have hz : w.heap.size < (w.alloc (.cells #[.string ByteArray.empty, .bool false, .int .i64 0, .int .i64 0, .int .i64 0, .slice none 0 0, .slice none 0 0] 25)).heap.size := by show _ < (Array.push _ _).size; simp
  obtain ⟨r, hr⟩ : ∃ r, r = newQ nm du dp := ⟨_, rfl⟩
  have HR := Lib.hid hr
  rw [← hr]
  clear hr
  cases hn : nameB nm with
  | false =>
    rw [hn] at HN
    obtain rfl : r = (noQ, 31) := by rw [HR.out]; unfold newQ; rw [hn]; rfl
    try dsimp only [noQ]
    go_enter Tryd.func11, Tryd.ntmps11
    go_wp2_with fail
    refine (HN.out).mono ?_
    rintro e w1 ⟨rfl, b1⟩
    have z0 := cell_below b1 hz (z 0 _ rfl)
    have z1 := cell_below b1 hz (z 1 _ rfl)
    have z2 := cell_below b1 hz (z 2 _ rfl)
    have z3 := cell_below b1 hz (z 3 _ rfl)
    have z4 := cell_below b1 hz (z 4 _ rfl)
    have z5 := cell_below b1 hz (z 5 _ rfl)
    have z6 := cell_below b1 hz (z 6 _ rfl)
    have f0 : ∀ j, w1.frozen? ⟨w.heap.size, j, none⟩ = false := fun j => (b1.frozen (p := ⟨w.heap.size, j, none⟩) hz).trans (y j)
    have B1 := Lib.hid (b0.trans (b1.mono b0.size))
    have G1 := Lib.hid ((b1.block w.heap.size hz).trans (heap_alloc_new w (.cells #[.string ByteArray.empty, .bool false, .int .i64 0, .int .i64 0, .int .i64 0, .slice none 0 0, .slice none 0 0] 25)))
    clear b1 z b0 HN hn y hz HR
    go_wp2_with fail
    refine queue_end (w := w1) (g := w.heap.size) rfl _ _ _ _ _ _ _ G1.out rfl rfl ?_
    exact ⟨rfl, below7 B1.out (Nat.le_refl _) _ _ _ _ _ _ _⟩
  | true =>
    rw [hn] at HN
    by_cases h1 : 1 ≤ dp
    · by_cases h2 : dp ≤ 64
      · obtain rfl : r = (⟨nm, du, dp, 0, 0, [], []⟩, 0) := by rw [HR.out]; unfold newQ; rw [hn, if_pos rfl, if_pos ⟨h1, h2⟩]
        try dsimp only [noQ]
        go_enter Tryd.func11, Tryd.ntmps11
        go_wp2_with fail
        refine (HN.out).mono ?_
        rintro e w1 ⟨rfl, b1⟩
        have z0 := cell_below b1 hz (z 0 _ rfl)
        have z1 := cell_below b1 hz (z 1 _ rfl)
        have z2 := cell_below b1 hz (z 2 _ rfl)
        have z3 := cell_below b1 hz (z 3 _ rfl)
        have z4 := cell_below b1 hz (z 4 _ rfl)
        have z5 := cell_below b1 hz (z 5 _ rfl)
        have z6 := cell_below b1 hz (z 6 _ rfl)
        have f0 : ∀ j, w1.frozen? ⟨w.heap.size, j, none⟩ = false := fun j => (b1.frozen (p := ⟨w.heap.size, j, none⟩) hz).trans (y j)
        have B1 := Lib.hid (b0.trans (b1.mono b0.size))
        have G1 := Lib.hid ((b1.block w.heap.size hz).trans (heap_alloc_new w (.cells #[.string ByteArray.empty, .bool false, .int .i64 0, .int .i64 0, .int .i64 0, .slice none 0 0, .slice none 0 0] 25)))
        clear b1 z b0 HN hn y hz HR
        go_wp2_with fail
        refine queue_end (w := w1) (g := w.heap.size) rfl _ _ _ _ _ _ _ G1.out rfl rfl ?_
        exact ⟨rfl, below7 B1.out (Nat.le_refl _) _ _ _ _ _ _ _⟩
      · obtain rfl : r = (noQ, 1) := by rw [HR.out]; unfold newQ; rw [hn, if_pos rfl, if_neg (fun h => h2 h.2)]
        have h2' : 64 < dp := by omega
        clear h2
        try dsimp only [noQ]
        go_enter Tryd.func11, Tryd.ntmps11
        go_wp2_with fail
        refine (HN.out).mono ?_
        rintro e w1 ⟨rfl, b1⟩
        have z0 := cell_below b1 hz (z 0 _ rfl)
        have z1 := cell_below b1 hz (z 1 _ rfl)
        have z2 := cell_below b1 hz (z 2 _ rfl)
        have z3 := cell_below b1 hz (z 3 _ rfl)
        have z4 := cell_below b1 hz (z 4 _ rfl)
        have z5 := cell_below b1 hz (z 5 _ rfl)
        have z6 := cell_below b1 hz (z 6 _ rfl)
        have f0 : ∀ j, w1.frozen? ⟨w.heap.size, j, none⟩ = false := fun j => (b1.frozen (p := ⟨w.heap.size, j, none⟩) hz).trans (y j)
        have B1 := Lib.hid (b0.trans (b1.mono b0.size))
        have G1 := Lib.hid ((b1.block w.heap.size hz).trans (heap_alloc_new w (.cells #[.string ByteArray.empty, .bool false, .int .i64 0, .int .i64 0, .int .i64 0, .slice none 0 0, .slice none 0 0] 25)))
        clear b1 z b0 HN hn y hz HR
        go_wp2_with fail
        refine queue_end (w := w1) (g := w.heap.size) rfl _ _ _ _ _ _ _ G1.out rfl rfl ?_
        exact ⟨rfl, below7 B1.out (Nat.le_refl _) _ _ _ _ _ _ _⟩
    · obtain rfl : r = (noQ, 1) := by rw [HR.out]; unfold newQ; rw [hn, if_pos rfl, if_neg (fun h => h1 h.1)]
      have h1' : dp < 1 := by omega
      clear h1
      try dsimp only [noQ]
      go_enter Tryd.func11, Tryd.ntmps11
      go_wp2_with fail
      refine (HN.out).mono ?_
      rintro e w1 ⟨rfl, b1⟩
      have z0 := cell_below b1 hz (z 0 _ rfl)
      have z1 := cell_below b1 hz (z 1 _ rfl)
      have z2 := cell_below b1 hz (z 2 _ rfl)
      have z3 := cell_below b1 hz (z 3 _ rfl)
      have z4 := cell_below b1 hz (z 4 _ rfl)
      have z5 := cell_below b1 hz (z 5 _ rfl)
      have z6 := cell_below b1 hz (z 6 _ rfl)
      have f0 : ∀ j, w1.frozen? ⟨w.heap.size, j, none⟩ = false := fun j => (b1.frozen (p := ⟨w.heap.size, j, none⟩) hz).trans (y j)
      have B1 := Lib.hid (b0.trans (b1.mono b0.size))
      have G1 := Lib.hid ((b1.block w.heap.size hz).trans (heap_alloc_new w (.cells #[.string ByteArray.empty, .bool false, .int .i64 0, .int .i64 0, .int .i64 0, .slice none 0 0, .slice none 0 0] 25)))
      clear b1 z b0 HN hn y hz HR
      go_wp2_with fail
      refine queue_end (w := w1) (g := w.heap.size) rfl _ _ _ _ _ _ _ G1.out rfl rfl ?_
      exact ⟨rfl, below7 B1.out (Nat.le_refl _) _ _ _ _ _ _ _⟩

end Go.Proofs.YtelhpdnclmpgoaaDoor
