/- Layer 10: the library's searches over items and over what is held. (Printed by gen/qea.py.) -/
import Derived.Test.YtelhpdnclmpgoaaDoorQdD
import Derived.Test.YtelhpdnclmpgoaaDoorShelb
namespace Go.Proofs.YtelhpdnclmpgoaaDoor
open Go Go.RowKit Go.Sort
open Go.ChangeShapes Go.WideShapes Go.Deep
set_option linter.unusedSimpArgs false
set_option linter.unusedVariables false

theorem cmpI_neg {a b : Int} : Lib.compareInt a b < 0 ↔ a < b := by
  unfold Lib.compareInt
  split
  · constructor <;> intro h
    · assumption
    · decide
  · split
    · constructor <;> intro h
      · exact absurd h (by decide)
      · omega
    · constructor <;> intro h
      · exact absurd h (by decide)
      · omega
set_option maxRecDepth 100000 in
theorem backF_c {w : World} (x : ItR) (s : Int) : Calls Tryd.prog 57 #[.agg #[.int .i64 x.it.seq, .bool x.it.again, .string x.it.m.top, .string x.it.m.body, .slice x.pa x.it.m.ps.length x.pc, .bool x.it.m.dur, .int .i64 x.it.m.unt], .int .i64 s] w fun e w' => e = .returned (.int .i64 (Lib.compareInt x.it.seq s)) ∧ Below w.heap.size w w' := by
  go_enter Tryd.func57, Tryd.ntmps57
  go_wp2_with fail
  refine (Tryd.cmp_Compare_int x.it.seq s _).mono ?_
  rintro e w' ⟨rfl, rfl⟩
  go_wp2_with fail
  go_ret
  exact ⟨rfl, (Below.refl _ _).alloc (Nat.le_refl _) _⟩

/-- All ahead of i are less, none behind. -/
def ItPlace (xs : List ItR) (s : Int) (i : Nat) : Prop :=
  i ≤ xs.length ∧ (∀ (q : Nat) (x : ItR), q < i → xs[q]? = some x → x.it.seq < s) ∧ (∀ (q : Nat) (x : ItR), i ≤ q → xs[q]? = some x → s ≤ x.it.seq)
def ItMono (xs : List ItR) : Prop := ∀ (a b : Nat) (x y : ItR), a ≤ b → xs[a]? = some x → xs[b]? = some y → x.it.seq ≤ y.it.seq
theorem half_u (i j n : Nat) (hij : i < j) (hj : j ≤ n) (hn : n ≤ 1099511627776) : IntKind.u64.wrap ((i : Int) + (j : Int)) = (i : Int) + (j : Int) := by rw [IntKind.wrap_u64]; omega
theorem half_i (i j n : Nat) (hij : i < j) (hj : j ≤ n) (hn : n ≤ 1099511627776) : IntKind.i64.wrap ((i : Int) + (j : Int)) = (i : Int) + (j : Int) := by rw [IntKind.wrap_i64]; omega
theorem half_d (i j h : Nat) (hh : h = (i + j) / 2) : ((i : Int) + (j : Int)) / 2 = (h : Int) := by omega
theorem half_lt (h n : Nat) (hj : h < n) : (h : Int) < (n : Int) := by omega
theorem half_w (h n : Nat) (hj : h < n) (hn : n ≤ 1099511627776) : wrap64 (h : Int) = (h : Int) := by unfold wrap64; omega
theorem half_w1 (h n : Nat) (hj : h < n) (hn : n ≤ 1099511627776) : wrap64 ((h : Int) + 1) = (h : Int) + 1 := by unfold wrap64; omega

set_option maxRecDepth 100000 in
set_option maxHeartbeats 2000000 in
theorem bsearchI_c {w : World} {v : Value} {xs : List ItR} (s : Int) (hp : RIt w v xs) (hm : ItMono xs) (hl : xs.length ≤ 1099511627776) :
    Calls Tryd.prog 56 #[v, .int .i64 s, .func (.func 57) #[] #[]] w fun e w' => ∃ (i : Nat) (b : Bool), ItPlace xs s i ∧ e = .returned (.tuple #[.int .i64 i, .bool b]) ∧ Below w.heap.size w w' := by
  obtain ⟨A, c, rfl, hnc, hcell⟩ := items_at hp
  have HC := Lib.hid hcell
  have HM := Lib.hid hm
  have HL := Lib.hid hl
  clear hcell hm hl hp
  go_enter Tryd.func56, Tryd.ntmps56
  go_wp2_with fail
  go_loopw [9, 10] (fun x y wr => ∃ i j : Nat, x = .int .i64 i ∧ y = .int .i64 j ∧ i ≤ j ∧ j ≤ xs.length ∧ Hid (∀ (q : Nat) (x : ItR), q < i → xs[q]? = some x → x.it.seq < s) ∧ Hid (∀ (q : Nat) (x : ItR), j ≤ q → xs[q]? = some x → s ≤ x.it.seq) ∧ Below w.heap.size w wr) (fun x y _ => (intOf y).toNat - (intOf x).toNat)
  case atStart => exact ⟨0, xs.length, rfl, rfl, Nat.zero_le _, Nat.le_refl _, Lib.hid (fun q x h => by omega), Lib.hid (fun q x h1 h2 => by have := (List.getElem?_eq_some_iff.1 h2).1; omega), Below.refl _ _⟩
  case round =>
    obtain ⟨i, j, rfl, rfl, hij, hj, H1, H2, b2⟩ := hrel
    by_cases hlt : i < j
    · obtain ⟨h, hh⟩ : ∃ h, h = (i + j) / 2 := ⟨_, rfl⟩
      have h1 : i ≤ h := by omega
      have h2 : h < j := by omega
      have hI : (i : Int) < j := by omega
      have hu := half_u i j _ hlt hj HL.out
      have hv1 := half_i i j _ hlt hj HL.out
      have hd := half_d i j h hh
      have hw := half_w h _ (Nat.lt_of_lt_of_le h2 hj) HL.out
      have hw1 := half_w1 h _ (Nat.lt_of_lt_of_le h2 hj) HL.out
      have hhn := half_lt h _ (Nat.lt_of_lt_of_le h2 hj)
      obtain ⟨x, hx⟩ : ∃ x, xs[h]? = some x := ⟨_, List.getElem?_eq_getElem (Nat.lt_of_lt_of_le h2 hj)⟩
      obtain ⟨ok, a, rfl, q0, q1, q2, q3, q4, q5, q6⟩ := HC.out h x hx
      have p0 := cell_below b2 (World.block_lt_of_cell? w _ q0) q0
      have p1 := cell_below b2 (World.block_lt_of_cell? w _ q1) q1
      have p2 := cell_below b2 (World.block_lt_of_cell? w _ q2) q2
      have p3 := cell_below b2 (World.block_lt_of_cell? w _ q3) q3
      have p4 := cell_below b2 (World.block_lt_of_cell? w _ q4) q4
      have p5 := cell_below b2 (World.block_lt_of_cell? w _ q5) q5
      have p6 := cell_below b2 (World.block_lt_of_cell? w _ q6) q6
      have HF := Lib.hid (fun w => backF_c (w := w) x s)
      have HM1 := Lib.hid (fun (q : Nat) (y : ItR) (hq : q ≤ h) (hy : xs[q]? = some y) (hc : Lib.compareInt x.it.seq s < 0) => (show y.it.seq < s from by have := HM.out q h y x hq hy hx; have := cmpI_neg.1 hc; omega))
      have HM2 := Lib.hid (fun (q : Nat) (y : ItR) (hq : h ≤ q) (hy : xs[q]? = some y) (hc : ¬ Lib.compareInt x.it.seq s < 0) => (show s ≤ y.it.seq from by have h8 := HM.out h q x y hq hx hy; have h9 : ¬ x.it.seq < s := fun h => hc (cmpI_neg.2 h); omega))
      have B2 := Lib.hid b2
      have H3 := Lib.hid hlt
      have H4 := Lib.hid h1
      have H5 := Lib.hid h2
      have H6 := Lib.hid hj
      clear hh hx q0 q1 q2 q3 q4 q5 q6 ok b2 h1 h2 hij hj hlt
      generalize Lib.compareInt x.it.seq s = cb at HF HM1 HM2
      go_wp2_with fail
      refine (HF.out _).mono ?_
      rintro e w1 ⟨rfl, b1⟩
      have B3 := B2.out.trans (b1.mono B2.out.size)
      by_cases hcb : cb < 0
      · have HCB := Lib.hid hcb
        go_wp2_with fail
        go_roundw
        case rel => exact ⟨h + 1, j, by first | rfl | (rw [hw1]; rfl), rfl, H5.out, H6.out, Lib.hid (fun q y hq hy => HM1.out q y (by omega) hy HCB.out), H2, B3⟩
        case measure => have := H3.out; have := H4.out; have := H5.out; first | (rw [hw1]; simp only [intOf]; omega) | (simp only [intOf]; omega)
      · have hcb' : 0 ≤ cb := by omega
        have HCB := Lib.hid hcb
        clear hcb
        go_wp2_with fail
        go_roundw
        case rel => exact ⟨i, h, rfl, rfl, H4.out, by have := H5.out; have := H6.out; omega, H1, Lib.hid (fun q y hq hy => HM2.out q y hq hy HCB.out), B3⟩
        case measure => have := H3.out; have := H4.out; have := H5.out; simp only [intOf]; omega
    · obtain rfl : i = j := by omega
      have HP := Lib.hid (show ItPlace xs s i from ⟨hj, H1.out, H2.out⟩)
      clear hlt hij
      by_cases hin : i < xs.length
      · obtain ⟨x, hx⟩ : ∃ x, xs[i]? = some x := ⟨_, List.getElem?_eq_getElem hin⟩
        obtain ⟨ok, a, rfl, q0, q1, q2, q3, q4, q5, q6⟩ := HC.out i x hx
        have p0 := cell_below b2 (World.block_lt_of_cell? w _ q0) q0
        have p1 := cell_below b2 (World.block_lt_of_cell? w _ q1) q1
        have p2 := cell_below b2 (World.block_lt_of_cell? w _ q2) q2
        have p3 := cell_below b2 (World.block_lt_of_cell? w _ q3) q3
        have p4 := cell_below b2 (World.block_lt_of_cell? w _ q4) q4
        have p5 := cell_below b2 (World.block_lt_of_cell? w _ q5) q5
        have p6 := cell_below b2 (World.block_lt_of_cell? w _ q6) q6
        have HF := Lib.hid (fun w => backF_c (w := w) x s)
        have hinI : (i : Int) < (xs.length : Int) := by omega
        clear hx q0 q1 q2 q3 q4 q5 q6 ok hin hj
        generalize Lib.compareInt x.it.seq s = cb at HF
        go_wp2_with fail
        refine (HF.out _).mono ?_
        rintro e w1 ⟨rfl, b1⟩
        have B3 := b2.trans (b1.mono b2.size)
        go_wp2_with fail
        go_ret2
        exact ⟨i, _, HP.out, rfl, B3⟩
      · obtain rfl : i = xs.length := by omega
        clear hin hj
        go_wp2_with fail
        go_ret2
        exact ⟨xs.length, _, HP.out, rfl, b2⟩

/-- Is it the one? -/
def isB (tg cn : Int) (x : HlR) : Bool := x.tag == tg && x.conn == cn
set_option maxRecDepth 100000 in
theorem settleF_c {w : World} (x : HlR) (tg cn : Int) {g1 g2 : Nat} (h1 : w.cell? ⟨g1, 0, none⟩ = some (.int .i64 tg)) (h2 : w.cell? ⟨g2, 0, none⟩ = some (.int .i64 cn)) :
    Calls Tryd.prog 45 #[.agg #[.int .i64 x.tag, .int .i64 x.conn, .int .i64 x.sub, .int .i64 x.r.it.seq, .bool x.r.it.again, .string x.r.it.m.top, .string x.r.it.m.body, .slice x.r.pa x.r.it.m.ps.length x.r.pc, .bool x.r.it.m.dur, .int .i64 x.r.it.m.unt], .pointer (some ⟨g1, 0, none⟩), .pointer (some ⟨g2, 0, none⟩)] w fun e w' => e = .returned (.bool (isB tg cn x)) ∧ Below w.heap.size w w' := by
  have e1 : ∀ o, (w.alloc o).cell? ⟨g1, 0, none⟩ = some (.int .i64 tg) := fun o => Lib.cell?_alloc_some _ h1
  have e2 : ∀ o, (w.alloc o).cell? ⟨g2, 0, none⟩ = some (.int .i64 cn) := fun o => Lib.cell?_alloc_some _ h2
  unfold isB
  cases ht : (x.tag == tg) with
  | false =>
    go_enter Tryd.func45, Tryd.ntmps45
    go_wp2_with fail
    go_ret
    exact ⟨rfl, (Below.refl _ _).alloc (Nat.le_refl _) _⟩
  | true =>
    go_enter Tryd.func45, Tryd.ntmps45
    go_wp2_with fail
    go_ret
    exact ⟨by rw [Bool.true_and]; rfl, (Below.refl _ _).alloc (Nat.le_refl _) _⟩
/-- The first one of which it holds. -/
def firstIx {α : Type} (p : α → Bool) (xs : List α) (i : Int) : Prop :=
  (i = -1 ∧ ∀ x ∈ xs, p x = false) ∨ ∃ (k : Nat) (x : α), i = k ∧ xs[k]? = some x ∧ p x = true ∧ ∀ y ∈ xs.take k, p y = false

set_option maxRecDepth 100000 in
set_option maxHeartbeats 2000000 in
theorem indexH_c {w : World} {v : Value} {xs : List HlR} (tg cn : Int) {g1 g2 : Nat} (h1 : w.cell? ⟨g1, 0, none⟩ = some (.int .i64 tg)) (h2 : w.cell? ⟨g2, 0, none⟩ = some (.int .i64 cn)) (hp : RHl w v xs) (hl : xs.length ≤ 1099511627776) :
    Calls Tryd.prog 44 #[v, .func (.func 45) #[] #[.pointer (some ⟨g1, 0, none⟩), .pointer (some ⟨g2, 0, none⟩)]] w fun e w' => ∃ i : Int, firstIx (isB tg cn) xs i ∧ e = .returned (.int .i64 i) ∧ Below w.heap.size w w' := by
  obtain ⟨A, c, rfl, hnc, hcell⟩ := held_at hp
  have HC := Lib.hid hcell
  have HL := Lib.hid hl
  have HF := Lib.hid (fun (x : HlR) w1 (b : Below w.heap.size w w1) => settleF_c (w := w1) x tg cn (cell_below b (World.block_lt_of_cell? w _ h1) h1) (cell_below b (World.block_lt_of_cell? w _ h2) h2))
  clear hcell hl hp h1 h2
  go_enter Tryd.func44, Tryd.ntmps44
  go_wp2_with fail
  go_loopw [5, 8] (fun _ i wr => ∃ k : Nat, k ≤ xs.length ∧ i = .int .i64 k ∧ Hid (∀ y ∈ xs.take k, isB tg cn y = false) ∧ Below w.heap.size w wr) (fun _ i _ => xs.length - (intOf i).toNat)
  case atStart => exact ⟨0, Nat.zero_le _, rfl, Lib.hid (by simp), Below.refl _ _⟩
  case round =>
    obtain ⟨k, hk, rfl, HT, b2⟩ := hrel
    by_cases hlt : k < xs.length
    · obtain ⟨x, hx⟩ : ∃ x, xs[k]? = some x := ⟨_, List.getElem?_eq_getElem hlt⟩
      obtain ⟨ok, a, rfl, q0, q1, q2, q3, q4, q5, q6, q7, q8, q9⟩ := HC.out k x hx
      have p0 := cell_below b2 (World.block_lt_of_cell? w _ q0) q0
      have p1 := cell_below b2 (World.block_lt_of_cell? w _ q1) q1
      have p2 := cell_below b2 (World.block_lt_of_cell? w _ q2) q2
      have p3 := cell_below b2 (World.block_lt_of_cell? w _ q3) q3
      have p4 := cell_below b2 (World.block_lt_of_cell? w _ q4) q4
      have p5 := cell_below b2 (World.block_lt_of_cell? w _ q5) q5
      have p6 := cell_below b2 (World.block_lt_of_cell? w _ q6) q6
      have p7 := cell_below b2 (World.block_lt_of_cell? w _ q7) q7
      have p8 := cell_below b2 (World.block_lt_of_cell? w _ q8) q8
      have p9 := cell_below b2 (World.block_lt_of_cell? w _ q9) q9
      have HX := Lib.hid hx
      have HLT := Lib.hid hlt
      have hkI : (k : Int) < (xs.length : Int) := by omega
      have HFX := Lib.hid (HF.out x wr b2)
      have B2 := Lib.hid b2
      clear hx q0 q1 q2 q3 q4 q5 q6 q7 q8 q9 ok b2 hlt hk
      go_wp2_with fail
      refine (HFX.out).mono ?_
      rintro e w1 ⟨rfl, b1⟩
      have B3 := B2.out.trans (b1.mono B2.out.size)
      cases hb : isB tg cn x with
      | true =>
        have HR := Lib.hid (show firstIx (isB tg cn) xs k from .inr ⟨k, x, rfl, HX.out, hb, HT.out⟩)
        go_wp2_with fail
        go_ret
        exact ⟨k, HR.out, rfl, B3⟩
      | false =>
        have HT2 : Hid (∀ y ∈ xs.take (k + 1), isB tg cn y = false) := Lib.hid (by
          rw [List.take_add_one, HX.out]
          intro y hy
          rcases List.mem_append.1 hy with h | h
          · exact HT.out y h
          · simp at h; rw [h]; exact hb)
        clear hb
        go_wp2_with fail
        have hwk : wrap64 ((k : Int) + 1) = (k : Int) + 1 := by have := HL.out; have := HLT.out; unfold wrap64; omega
        go_roundw
        case rel => exact ⟨k + 1, by have := HLT.out; omega, by go_num, HT2, B3⟩
        case measure => first | exact round_lessL HLT.out | (rw [hwk]; exact round_lessL HLT.out)
    · have hk2 : k = xs.length := by omega
      subst hk2
      have HR := Lib.hid (show firstIx (isB tg cn) xs (-1) from .inl ⟨rfl, by have := HT.out; rwa [List.take_length] at this⟩)
      clear hlt hk
      go_wp2_with fail
      go_ret
      exact ⟨-1, HR.out, rfl, b2⟩
end Go.Proofs.YtelhpdnclmpgoaaDoor
