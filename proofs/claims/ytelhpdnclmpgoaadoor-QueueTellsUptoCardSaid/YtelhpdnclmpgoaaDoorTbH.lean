/- The reference's sameness of lists of properties. -/
import Derived.Test.YtelhpdnclmpgoaaDoorTbG
import Derived.Deep.DeepCutAuto
import Derived.Deep.CutRange
namespace Go.Proofs.YtelhpdnclmpgoaaDoor
open Go Go.RowKit Go.Sort
set_option linter.unusedSimpArgs false
set_option linter.unusedVariables false

theorem prp_ext {p q : Prp} (h0 : p.nm = q.nm) (h : valSame p.k p.n p.t p.r q.k q.n q.t q.r = true) : p = q := by
  unfold valSame at h
  simp only [decide_eq_true_eq] at h
  obtain ⟨h1, h2, h3, h4⟩ := h
  cases p; cases q
  simp_all

theorem round_less1 {n k : Nat} (h : k < n) : n - (intOf (.int .i64 ((k : Int) + 1))).toNat < n - (intOf (.int .i64 (k : Int))).toNat := by
  show n - ((k : Int) + 1).toNat < n - (k : Int).toNat
  rw [show ((k : Int) + 1).toNat = k + 1 by omega, Int.toNat_natCast]
  omega
theorem valSame_self (p : Prp) : valSame p.k p.n p.t p.r p.k p.n p.t p.r = true := by unfold valSame; simp

set_option maxRecDepth 100000 in
set_option maxHeartbeats 2000000 in
theorem sameAll_c {w : World} {v v' : Value} {ps qs : List Prp} (hp : RPr w v ps) (hq : RPr w v' qs) :
    Calls Tryd.prog 40 #[v, v'] w fun e w' => ∃ b : Bool, e = .returned (.bool b) ∧ (b = true ↔ ps = qs) ∧ Below w.heap.size w w' := by
  have h63 : ps.length ≤ 9223372036854775807 := by obtain ⟨_, _, _, h1, h2, _⟩ := id hp; omega
  obtain ⟨A, c, rfl, hnc, hcell⟩ := props_at hp
  obtain ⟨A', c', rfl, hnc', hcell'⟩ := props_at hq
  have HC := Lib.hid hcell
  have HC' := Lib.hid hcell'
  have H63 := Lib.hid h63
  clear hp hq hcell hcell' h63
  by_cases hl : ps.length = qs.length
  · have HL := Lib.hid hl
    rw [← hl] at hnc' ⊢
    clear hl
    go_enter Tryd.func40, Tryd.ntmps40
    go_wp2_with fail
    go_loopw [13] (fun i wr => ∃ k : Nat, k ≤ ps.length ∧ i = .int .i64 k ∧ Hid (ps.take k = qs.take k) ∧ Below w.heap.size w wr) (fun i _ => ps.length - (intOf i).toNat)
    case atStart => exact ⟨0, Nat.zero_le _, rfl, Lib.hid rfl, Below.refl _ _⟩
    case round =>
      obtain ⟨k, hk, rfl, HT, b2⟩ := hrel
      by_cases hlt : k < ps.length
      · obtain ⟨p, hp⟩ : ∃ p, ps[k]? = some p := ⟨_, List.getElem?_eq_getElem hlt⟩
        obtain ⟨q, hq⟩ : ∃ q, qs[k]? = some q := ⟨_, List.getElem?_eq_getElem (by have := HL.out; omega)⟩
        obtain ⟨a, rfl, q0, q1, q2, q3, q4⟩ := HC.out k p hp
        obtain ⟨a', rfl, r0, r1, r2, r3, r4⟩ := HC'.out k q hq
        have hne : p ≠ q → ¬ ps = qs := fun h e => h (by rw [e] at hp; rw [hp] at hq; injection hq)
        have htk : p = q → ps.take (k + 1) = qs.take (k + 1) := fun h => by rw [List.take_add_one, List.take_add_one, hp, hq, HT.out, h]
        have HNE := Lib.hid hne
        have HTK := Lib.hid htk
        have hwk : wrap64 ((k : Int) + 1) = (k : Int) + 1 := by have := H63.out; unfold wrap64; omega
        have hkI : (k : Int) < ps.length := by omega
        have z0 : ∀ d os, (grow (redrawn wr d) os).cell? (a.add (k * 5)) = some (.string p.nm) := fun d os => cell_regrown (cell_below b2 (World.block_lt_of_cell? w _ q0) q0) d os
        have z1 : ∀ d os, (grow (redrawn wr d) os).cell? ⟨(a.add (k * 5)).block, (a.add (k * 5)).off + 1, none⟩ = some (.int .i64 p.k) := fun d os => cell_regrown (cell_below b2 (World.block_lt_of_cell? w _ q1) q1) d os
        have z2 : ∀ d os, (grow (redrawn wr d) os).cell? ⟨(a.add (k * 5)).block, (a.add (k * 5)).off + 2, none⟩ = some (.int .i64 p.n) := fun d os => cell_regrown (cell_below b2 (World.block_lt_of_cell? w _ q2) q2) d os
        have z3 : ∀ d os, (grow (redrawn wr d) os).cell? ⟨(a.add (k * 5)).block, (a.add (k * 5)).off + 3, none⟩ = some (.string p.t) := fun d os => cell_regrown (cell_below b2 (World.block_lt_of_cell? w _ q3) q3) d os
        have z4 : ∀ d os, (grow (redrawn wr d) os).cell? ⟨(a.add (k * 5)).block, (a.add (k * 5)).off + 4, none⟩ = some (.float .f64 p.r) := fun d os => cell_regrown (cell_below b2 (World.block_lt_of_cell? w _ q4) q4) d os
        have y0 : ∀ d os, (grow (redrawn wr d) os).cell? (a'.add (k * 5)) = some (.string q.nm) := fun d os => cell_regrown (cell_below b2 (World.block_lt_of_cell? w _ r0) r0) d os
        have y1 : ∀ d os, (grow (redrawn wr d) os).cell? ⟨(a'.add (k * 5)).block, (a'.add (k * 5)).off + 1, none⟩ = some (.int .i64 q.k) := fun d os => cell_regrown (cell_below b2 (World.block_lt_of_cell? w _ r1) r1) d os
        have y2 : ∀ d os, (grow (redrawn wr d) os).cell? ⟨(a'.add (k * 5)).block, (a'.add (k * 5)).off + 2, none⟩ = some (.int .i64 q.n) := fun d os => cell_regrown (cell_below b2 (World.block_lt_of_cell? w _ r2) r2) d os
        have y3 : ∀ d os, (grow (redrawn wr d) os).cell? ⟨(a'.add (k * 5)).block, (a'.add (k * 5)).off + 3, none⟩ = some (.string q.t) := fun d os => cell_regrown (cell_below b2 (World.block_lt_of_cell? w _ r3) r3) d os
        have y4 : ∀ d os, (grow (redrawn wr d) os).cell? ⟨(a'.add (k * 5)).block, (a'.add (k * 5)).off + 4, none⟩ = some (.float .f64 q.r) := fun d os => cell_regrown (cell_below b2 (World.block_lt_of_cell? w _ r4) r4) d os
        clear hp hq q0 q1 q2 q3 q4 r0 r1 r2 r3 r4 hne htk
        by_cases hnm : p.nm = q.nm
        · cases hvs : valSame p.k p.n p.t p.r q.k q.n q.t q.r with
          | true =>
            have hpq := prp_ext hnm hvs
            have hnx := HTK.out hpq
            have cS : ∀ d os, Calls Tryd.prog 60 #[.agg #[.int .i64 p.k, .int .i64 p.n, .string p.t, .float .f64 p.r], .agg #[.int .i64 q.k, .int .i64 q.n, .string q.t, .float .f64 q.r]] (grow (redrawn wr d) os) fun e w'' => e = .returned (.bool true) ∧ ∃ p : Regrown, w'' = grow (redrawn wr p.d) p.os := fun d os => Calls.regrown_of (by have := valSame_c (w := grow (redrawn wr d) os) p.k p.n p.t p.r q.k q.n q.t q.r; rw [hvs] at this; exact this)
            rw [← hnm] at y0
            clear hpq hvs hnm
            go_upto_region 6 with fail
            refine wp_region_quiet_below (by kernel_rfl) (by kernel_rfl) ?_
            repeat (go_big_quiet_step (first | exact cS _ _))
            refine wpQuiet_nil ?_
            intro _ hw'
            obtain ⟨⟨dq, osq⟩, hw''⟩ := hw'
            subst hw''
            have bE := b2.trans ((below_regrown wr dq osq).mono b2.size)
            go_wp2
            go_roundw
            case rel => exact ⟨k + 1, by omega, by go_num, Lib.hid hnx, bE⟩
            case measure => first | exact round_less1 hlt | (rw [hwk]; exact round_less1 hlt)
          | false =>
            have hpq : p ≠ q := fun e => by subst e; rw [valSame_self] at hvs; cases hvs
            have HPQ := Lib.hid hpq
            have cS : ∀ d os, Calls Tryd.prog 60 #[.agg #[.int .i64 p.k, .int .i64 p.n, .string p.t, .float .f64 p.r], .agg #[.int .i64 q.k, .int .i64 q.n, .string q.t, .float .f64 q.r]] (grow (redrawn wr d) os) fun e w'' => e = .returned (.bool false) ∧ ∃ p : Regrown, w'' = grow (redrawn wr p.d) p.os := fun d os => Calls.regrown_of (by have := valSame_c (w := grow (redrawn wr d) os) p.k p.n p.t p.r q.k q.n q.t q.r; rw [hvs] at this; exact this)
            rw [← hnm] at y0
            clear hpq hvs hnm hwk
            go_upto_region 6 with fail
            refine wp_region_quiet_below (by kernel_rfl) (by kernel_rfl) ?_
            repeat (go_big_quiet_step (first | exact cS _ _))
            refine wpQuiet_nil ?_
            intro _ hw'
            obtain ⟨⟨dq, osq⟩, hw''⟩ := hw'
            subst hw''
            have bE := b2.trans ((below_regrown wr dq osq).mono b2.size)
            go_wp2
            go_ret
            exact ⟨false, rfl, ⟨(fun h => by cases h), fun h => absurd h (HNE.out HPQ.out)⟩, bE⟩
        · have hpq : p ≠ q := fun e => hnm (by rw [e])
          have HPQ := Lib.hid hpq
          have hnm' := str_ne hnm
          clear hpq hnm hwk
          go_upto_region 6 with fail
          refine wp_region_quiet_below (by kernel_rfl) (by kernel_rfl) ?_
          repeat (go_big_quiet_step (first | fail))
          refine wpQuiet_nil ?_
          intro _ hw'
          obtain ⟨⟨dq, osq⟩, hw''⟩ := hw'
          subst hw''
          have bE := b2.trans ((below_regrown wr dq osq).mono b2.size)
          go_wp2
          go_ret
          exact ⟨false, rfl, ⟨(fun h => by cases h), fun h => absurd h (HNE.out HPQ.out)⟩, bE⟩
      · have hk2 : k = ps.length := by omega
        subst hk2
        have heq : ps = qs := by
          have := HT.out
          rwa [List.take_of_length_le (Nat.le_refl _), List.take_of_length_le (by have := HL.out; omega)] at this
        have HEQ := Lib.hid heq
        clear hlt heq
        go_wp2_with fail
        go_ret
        exact ⟨true, rfl, ⟨fun _ => HEQ.out, fun _ => rfl⟩, b2⟩
  · have hne : ¬ ps = qs := fun e => hl (by rw [e])
    have HNE := Lib.hid hne
    have hlb : ((ps.length : Int) == (qs.length : Int)) = false := beq_eq_false_iff_ne.2 (by omega)
    have hlb2 : (ps.length == qs.length) = false := beq_eq_false_iff_ne.2 hl
    clear hne hl
    go_enter Tryd.func40, Tryd.ntmps40
    go_wp2_with fail
    go_ret
    exact ⟨false, rfl, ⟨(fun h => by cases h), fun h => absurd h HNE.out⟩, Below.refl _ _⟩
end Go.Proofs.YtelhpdnclmpgoaaDoor
