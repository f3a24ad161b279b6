/- Layer 10: slices.DeleteFunc at Item, with Expire's question. -/
import Derived.Test.YtelhpdnclmpgoaaDoorQeK
import Derived.Test.YtelhpdnclmpgoaaDoorQdE
namespace Go.Proofs.YtelhpdnclmpgoaaDoor
open Go Go.RowKit Go.Sort
open Go.ChangeShapes Go.WideShapes Go.Deep
set_option linter.unusedSimpArgs false
set_option linter.unusedVariables false

/-- Is no more at a tick. -/
def gone (now : Int) (x : Itm) : Bool := decide (0 < x.m.unt) && decide (x.m.unt ≤ now)
set_option maxRecDepth 100000 in
theorem expireF_c {w : World} (x : ItR) (now : Int) {g1 : Nat} (h1 : w.cell? ⟨g1, 0, none⟩ = some (.int .i64 now)) :
    Calls Tryd.prog 42 #[.agg #[.int .i64 x.it.seq, .bool x.it.again, .string x.it.m.top, .string x.it.m.body, .slice x.pa x.it.m.ps.length x.pc, .bool x.it.m.dur, .int .i64 x.it.m.unt], .pointer (some ⟨g1, 0, none⟩)] w fun e w' => e = .returned (.bool (gone now x.it)) ∧ Below w.heap.size w w' := by
  have e1 : ∀ o, (w.alloc o).cell? ⟨g1, 0, none⟩ = some (.int .i64 now) := fun o => Lib.cell?_alloc_some _ h1
  by_cases hp : 0 < x.it.m.unt
  · by_cases hn : x.it.m.unt ≤ now
    · have e : gone now x.it = true := by unfold gone; rw [decide_eq_true hp, decide_eq_true hn]; rfl
      rw [e]
      go_enter Tryd.func42, Tryd.ntmps42
      go_wp2_with fail
      go_ret
      exact ⟨rfl, (Below.refl _ _).alloc (Nat.le_refl _) _⟩
    · have e : gone now x.it = false := by unfold gone; rw [decide_eq_true hp, decide_eq_false hn]; rfl
      rw [e]
      go_enter Tryd.func42, Tryd.ntmps42
      go_wp2_with fail
      go_ret
      exact ⟨rfl, (Below.refl _ _).alloc (Nat.le_refl _) _⟩
  · have e : gone now x.it = false := by unfold gone; rw [decide_eq_false hp]; rfl
    rw [e]
    go_enter Tryd.func42, Tryd.ntmps42
    go_wp2_with fail
    go_ret
    exact ⟨rfl, (Below.refl _ _).alloc (Nat.le_refl _) _⟩

set_option maxRecDepth 100000 in
set_option maxHeartbeats 2000000 in
theorem indexI_c {w : World} {v : Value} {xs : List ItR} (now : Int) {g1 : Nat} (h1 : w.cell? ⟨g1, 0, none⟩ = some (.int .i64 now)) (hp : RIt w v xs) (hl : xs.length ≤ 1099511627776) :
    Calls Tryd.prog 61 #[v, .func (.func 42) #[] #[.pointer (some ⟨g1, 0, none⟩)]] w fun e w' => ∃ i : Int, firstIx (fun x : ItR => gone now x.it) xs i ∧ e = .returned (.int .i64 i) ∧ Below w.heap.size w w' := by
  obtain ⟨A, c, rfl, hnc, hcell⟩ := items_at hp
  have HC := Lib.hid hcell
  have HL := Lib.hid hl
  have HF := Lib.hid (fun (x : ItR) w1 (b : Below w.heap.size w w1) => expireF_c (w := w1) x now (cell_below b (World.block_lt_of_cell? w _ h1) h1))
  clear hcell hl hp h1
  go_enter Tryd.func61, Tryd.ntmps61
  go_wp2_with fail
  go_loopw [5, 8] (fun _ i wr => ∃ k : Nat, k ≤ xs.length ∧ i = .int .i64 k ∧ Hid (∀ y ∈ xs.take k, gone now y.it = false) ∧ Below w.heap.size w wr) (fun _ i _ => xs.length - (intOf i).toNat)
  case atStart => exact ⟨0, Nat.zero_le _, rfl, Lib.hid (by simp), Below.refl _ _⟩
  case round =>
    obtain ⟨k, hk, rfl, HT, b2⟩ := hrel
    by_cases hlt : k < xs.length
    · obtain ⟨x, hx⟩ : ∃ x, xs[k]? = some x := ⟨_, List.getElem?_eq_getElem hlt⟩
      obtain ⟨ok, a, rfl, q0, q1, q2, q3, q4, q5, q6⟩ := HC.out k x hx
      have p0 := cell_below b2 (World.block_lt_of_cell? w _ q0) q0
      have p1 := cell_below b2 (World.block_lt_of_cell? w _ q1) q1
      have p2 := cell_below b2 (World.block_lt_of_cell? w _ q2) q2
      have p3 := cell_below b2 (World.block_lt_of_cell? w _ q3) q3
      have p4 := cell_below b2 (World.block_lt_of_cell? w _ q4) q4
      have p5 := cell_below b2 (World.block_lt_of_cell? w _ q5) q5
      have p6 := cell_below b2 (World.block_lt_of_cell? w _ q6) q6
      have HX := Lib.hid hx
      have HLT := Lib.hid hlt
      have hkI : (k : Int) < (xs.length : Int) := by omega
      have HFX := Lib.hid (HF.out x wr b2)
      have B2 := Lib.hid b2
      clear hx q0 q1 q2 q3 q4 q5 q6 ok b2 hlt hk
      go_wp2_with fail
      refine (HFX.out).mono ?_
      rintro e w1 ⟨rfl, b1⟩
      have B3 := B2.out.trans (b1.mono B2.out.size)
      cases hb : gone now x.it with
      | true =>
        have HR := Lib.hid (show firstIx (fun x : ItR => gone now x.it) xs k from .inr ⟨k, x, rfl, HX.out, hb, HT.out⟩)
        go_wp2_with fail
        go_ret
        exact ⟨k, HR.out, rfl, B3⟩
      | false =>
        have HT2 : Hid (∀ y ∈ xs.take (k + 1), gone now y.it = false) := Lib.hid (by
          rw [List.take_add_one, HX.out]
          intro y hy
          rcases List.mem_append.1 hy with h | h
          · exact HT.out y h
          · simp at h; rw [h]; exact hb)
        clear hb
        go_wp2_with fail
        have hwk : wrap64 ((k : Int) + 1) = (k : Int) + 1 := by have := HL.out; have := HLT.out; unfold wrap64; omega
        go_roundw
        case rel => exact ⟨k + 1, by have := HLT.out; omega, by go_num, HT2, B3⟩
        case measure => first | exact round_lessL HLT.out | (rw [hwk]; exact round_lessL HLT.out)
    · have hk2 : k = xs.length := by omega
      subst hk2
      have HR := Lib.hid (show firstIx (fun x : ItR => gone now x.it) xs (-1) from .inl ⟨rfl, by have := HT.out; rwa [List.take_length] at this⟩)
      clear hlt hk
      go_wp2_with fail
      go_ret
      exact ⟨-1, HR.out, rfl, b2⟩
theorem setI7_flat (l : List ItR) (k : Nat) (y : ItR) (hk : k < l.length) :
    (((((((l.flatMap ItR.cells).set (k * 7) (.int .i64 y.it.seq)).set (k * 7 + 1) (.bool y.it.again)).set (k * 7 + 2) (.string y.it.m.top)).set (k * 7 + 3) (.string y.it.m.body)).set (k * 7 + 4) (.slice y.pa y.it.m.ps.length y.pc)).set (k * 7 + 5) (.bool y.it.m.dur)).set (k * 7 + 6) (.int .i64 y.it.m.unt) = (l.set k y).flatMap ItR.cells := by
  have hl : (l.flatMap ItR.cells).length = l.length * 7 := by rw [flat_len ItR.cells 7 (fun _ => rfl)]
  refine List.ext_getElem? fun q => ?_
  rw [flat_get ItR.cells 7 (by omega) (fun _ => rfl)]
  simp only [List.getElem?_set, List.length_set, hl]
  by_cases hq : q / 7 = k
  · have h7 : q % 7 < 7 := Nat.mod_lt _ (by omega)
    have hqe : q = k * 7 + q % 7 := by omega
    rw [if_pos hq.symm, if_pos hk]
    rcases (show q % 7 = 0 ∨ q % 7 = 1 ∨ q % 7 = 2 ∨ q % 7 = 3 ∨ q % 7 = 4 ∨ q % 7 = 5 ∨ q % 7 = 6 by omega) with h | h | h | h | h | h | h
    all_goals (rw [h] at hqe ⊢; subst hqe; simp [ItR.cells]; try omega)
  · rw [if_neg (by omega), if_neg (by omega), if_neg (by omega), if_neg (by omega), if_neg (by omega), if_neg (by omega), if_neg (by omega), if_neg (fun e => hq e.symm), flat_get ItR.cells 7 (by omega) (fun _ => rfl)]
theorem own_set7 {w : World} {B g n c k : Nat} {l : List ItR} (h : w.ownsRow B 44 7 (.slice (some ⟨g, 0, none⟩) n c) n (l.flatMap ItR.cells)) (hk : k < l.length) (y : ItR) :
    (((((((w.setCell ⟨g, k * 7, none⟩ (.int .i64 y.it.seq)).setCell ⟨g, k * 7 + 1, none⟩ (.bool y.it.again)).setCell ⟨g, k * 7 + 2, none⟩ (.string y.it.m.top)).setCell ⟨g, k * 7 + 3, none⟩ (.string y.it.m.body)).setCell ⟨g, k * 7 + 4, none⟩ (.slice y.pa y.it.m.ps.length y.pc)).setCell ⟨g, k * 7 + 5, none⟩ (.bool y.it.m.dur)).setCell ⟨g, k * 7 + 6, none⟩ (.int .i64 y.it.m.unt)).ownsRow B 44 7 (.slice (some ⟨g, 0, none⟩) n c) n ((l.set k y).flatMap ItR.cells) := by
  have hl : (l.flatMap ItR.cells).length = l.length * 7 := by rw [flat_len ItR.cells 7 (fun _ => rfl)]
  rw [← setI7_flat l k y hk]
  have h0 := own_set' h (k * 7) (.int .i64 y.it.seq) (by rw [hl]; omega)
  have h1 := own_set' h0 (k * 7 + 1) (.bool y.it.again) (by simp only [List.length_set, hl]; omega)
  have h2 := own_set' h1 (k * 7 + 2) (.string y.it.m.top) (by simp only [List.length_set, hl]; omega)
  have h3 := own_set' h2 (k * 7 + 3) (.string y.it.m.body) (by simp only [List.length_set, hl]; omega)
  have h4 := own_set' h3 (k * 7 + 4) (.slice y.pa y.it.m.ps.length y.pc) (by simp only [List.length_set, hl]; omega)
  have h5 := own_set' h4 (k * 7 + 5) (.bool y.it.m.dur) (by simp only [List.length_set, hl]; omega)
  exact own_set' h5 (k * 7 + 6) (.int .i64 y.it.m.unt) (by simp only [List.length_set, hl]; omega)
theorem grown7k (w : World) (g k : Nat) (a b c d e f i : Value) : w.grownBy (((((((w.setCell ⟨g, k * 7, none⟩ a).setCell ⟨g, k * 7 + 1, none⟩ b).setCell ⟨g, k * 7 + 2, none⟩ c).setCell ⟨g, k * 7 + 3, none⟩ d).setCell ⟨g, k * 7 + 4, none⟩ e).setCell ⟨g, k * 7 + 5, none⟩ f).setCell ⟨g, k * 7 + 6, none⟩ i) (some g) :=
  grownBy_trans (grownBy_trans (grownBy_trans (grownBy_trans (grownBy_trans (grownBy_trans (grownBy_set _ _ _ _) (grownBy_set _ _ _ _)) (grownBy_set _ _ _ _)) (grownBy_set _ _ _ _)) (grownBy_set _ _ _ _)) (grownBy_set _ _ _ _)) (grownBy_set _ _ _ _)
/-- Within DeleteFunc: what stays of the first b ones stands at the front. -/
structure DF (w wr : World) (B g c : Nat) (xs : List ItR) (p : ItR → Bool) (a b : Nat) : Prop where
  row : wr.ownsRow B 44 7 (.slice (some ⟨g, 0, none⟩) xs.length c) xs.length (((xs.take b).filter p ++ xs.drop a).flatMap ItR.cells)
  len : ((xs.take b).filter p).length = a
  ab : a < b
  gr : w.grownBy wr (some g)
theorem DF.below {w wr w1 : World} {B g c : Nat} {xs : List ItR} {p : ItR → Bool} {a b : Nat} (h : DF w wr B g c xs p a b) (bl : Below wr.heap.size wr w1) : DF w w1 B g c xs p a b :=
  ⟨own_below h.row bl, h.len, h.ab, grownBy_trans h.gr (grownBy_below bl _)⟩
theorem DF.skip {w wr : World} {B g c : Nat} {xs : List ItR} {p : ItR → Bool} {a b : Nat} (h : DF w wr B g c xs p a b) {x : ItR} (hx : xs[b]? = some x) (hp : p x = false) : DF w wr B g c xs p a (b + 1) := by
  have e : (xs.take (b + 1)).filter p = (xs.take b).filter p := by rw [List.take_add_one, hx]; simp [List.filter_append, hp]
  exact ⟨by rw [e]; exact h.row, by rw [e]; exact h.len, Nat.lt_succ_of_lt h.ab, h.gr⟩
theorem DF.at {w wr : World} {B g c : Nat} {xs : List ItR} {p : ItR → Bool} {a b : Nat} (h : DF w wr B g c xs p a b) {j : Nat} (hj : a ≤ j) {x : ItR} (hx : xs[j]? = some x) : ((xs.take b).filter p ++ xs.drop a)[j]? = some x := by
  rw [List.getElem?_append_right (by rw [h.len]; exact hj), h.len, List.getElem?_drop, show a + (j - a) = j by omega]; exact hx
theorem DF.put {w wr : World} {B g c : Nat} {xs : List ItR} {p : ItR → Bool} {a b : Nat} (h : DF w wr B g c xs p a b) {x : ItR} (hx : xs[b]? = some x) (hp : p x = true) :
    DF w (((((((wr.setCell ⟨g, a * 7, none⟩ (.int .i64 x.it.seq)).setCell ⟨g, a * 7 + 1, none⟩ (.bool x.it.again)).setCell ⟨g, a * 7 + 2, none⟩ (.string x.it.m.top)).setCell ⟨g, a * 7 + 3, none⟩ (.string x.it.m.body)).setCell ⟨g, a * 7 + 4, none⟩ (.slice x.pa x.it.m.ps.length x.pc)).setCell ⟨g, a * 7 + 5, none⟩ (.bool x.it.m.dur)).setCell ⟨g, a * 7 + 6, none⟩ (.int .i64 x.it.m.unt)) B g c xs p (a + 1) (b + 1) := by
  have hb := (List.getElem?_eq_some_iff.1 hx).1
  have hab := h.ab
  have e : (xs.take (b + 1)).filter p = (xs.take b).filter p ++ [x] := by rw [List.take_add_one, hx]; simp [List.filter_append, hp]
  have hr := own_set7 h.row (k := a) (by simp only [List.length_append, h.len, List.length_drop]; omega) x
  have es : ((xs.take b).filter p ++ xs.drop a).set a x = (xs.take (b + 1)).filter p ++ xs.drop (a + 1) := by
    rw [e, List.set_append_right _ _ (by rw [h.len]; exact Nat.le_refl _), h.len, Nat.sub_self, List.append_assoc]
    congr 1
    rw [List.drop_eq_getElem_cons (show a < xs.length by omega)]
    rfl
  rw [es] at hr
  exact ⟨hr, by rw [e, List.length_append, h.len]; rfl, by omega, grownBy_trans h.gr (grown7k _ _ _ _ _ _ _ _ _ _)⟩
theorem filter_all {α : Type} {p : α → Bool} {l : List α} (h : ∀ x ∈ l, p x = true) : l.filter p = l := List.filter_eq_self.2 h
end Go.Proofs.YtelhpdnclmpgoaaDoor
