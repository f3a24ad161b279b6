/- Stable sorting of properties by their names: the merge, whole. -/
import Derived.Test.YteigbejidfkhpaaDoorSoC
import Derived.Deep.DeepCutAuto
import Derived.Deep.CutRange
namespace Go.Proofs.YteigbejidfkhpaaDoor
open Go Go.Proofs Go.RowKit Go.Lib Go.Sort Go.Shelf
set_option linter.unusedSimpArgs false
set_option linter.unusedVariables false

set_option maxHeartbeats 8000000 in
set_option maxRecDepth 1000000 in
theorem symMerge_gen {k : Nat} (aE : ∀ w, (isAgg 48).run Tryd.prog w = .ok true w) (zE : ∀ w, (Go.sizeOf 48).run Tryd.prog w = .ok k w) {w0 w : World} {blk off cap a m b : Nat} {d0 d : Array Prp} (R : RowK Prp.cells k w0 blk off d0) (hs : d0.size = d.size) (S : SWP k w0 blk off d w) (ham : a < m) (hmb : m < b) (hb : b ≤ d.size) (hsz : d.size < 4611686018427387904) (h0 : ¬ m = a + 1) (h1 : ¬ b = m + 1) (ih : ∀ (a' m' b' : Nat) (w' : World), b' - a' < b - a → a' < m' → m' < b' → b' ≤ d.size → SWP k w0 blk off d w' → Calls Tryd.prog 85 #[.slice (some ⟨blk, off, none⟩) d.size cap, .int .i64 a', .int .i64 m', .int .i64 b', .func (.func 62) #[] #[]] w' fun e w'' => e = .returned (.tuple #[]) ∧ SWP k w0 blk off d w'') :
    Calls Tryd.prog 85 #[.slice (some ⟨blk, off, none⟩) d.size cap, .int .i64 a, .int .i64 m, .int .i64 b, .func (.func 62) #[] #[]] w fun e w' => e = .returned (.tuple #[]) ∧ SWP k w0 blk off d w' := by
  have mixed : Tryd.prog.follows .mixedOrders = true := by kernel_rfl
  have S0 : Aside (SWP k w0 blk off d w) := S
  have hmz : (m : Int) ≤ 4611686018427387904 := by omega
  have hbz : (b : Int) ≤ 4611686018427387904 := by omega
  have ham1 : (a : Int) < m := by omega
  have hmb1 : (m : Int) < b := by omega
  clear S
  have hn1 : ((m : Int) - a == 1) = false := beq_eq_false_iff_ne.2 (by omega)
  have hn2 : ((b : Int) - m == 1) = false := beq_eq_false_iff_ne.2 (by omega)
  have IH := Lib.hid ih
  have haz : (0 : Int) ≤ a := by omega
  have h0' : a + 2 ≤ m := by omega
  have h1' : m + 2 ≤ b := by omega
  clear ih h0 h1
  go_enter Tryd.func85, Tryd.ntmps85
  go_upto_region 25 with fail
  obtain ⟨md, hmd⟩ : ∃ h : Nat, h = (a + b) / 2 := ⟨_, rfl⟩
  rw [show ((a : Int) + (b : Int)) / 2 = (md : Int) by omega]
  have hmd1 : 2 * md ≤ a + b := by omega
  have hmd2 : a + b ≤ 2 * md + 1 := by omega
  have hmdz : (md : Int) ≤ 4611686018427387904 := by omega
  have hmd0 : (0 : Int) ≤ md := by omega
  clear hmd
  by_cases hmm : md < m
  · have hmz2 : (md : Int) < m := by omega
    have hstz : (md : Int) + m - b = ((md + m - b : Nat) : Int) := by omega
    go_wp2_with fail
    clear hstz hmz2
    go_loopg [20, 21] (b - a) (fun kx s20 s21 wr => ∃ (s t : Nat), s20 = .int .i64 s ∧ s21 = .int .i64 t ∧ a ≤ s ∧ s ≤ t ∧ t ≤ md ∧ t ≤ m ∧ md + m ≤ b + s ∧ t - s ≤ kx ∧ Aside (SWP k w0 blk off d wr))
    case atStart => exact ⟨md + m - b, md, rfl, rfl, by omega, by omega, by omega, by omega, by omega, by omega, S0⟩
    case round =>
      clear S0
      obtain ⟨i, j, rfl, rfl, hi1, hi2, hj1, hj2, hj3, hkx, S0⟩ := hrel
      by_cases hlt : i < j
      · obtain ⟨dk, hds, HP', S1'⟩ := S0.out
        have HP : Aside (PermIn 0 d.size d dk) := HP'
        have S1 : Aside (SWK Prp.cells k w0 blk off dk wr) := S1'
        clear HP' S1' S0
        have hltz : (i : Int) < (j : Int) := by omega
        have hiz : (i : Int) ≤ 4611686018427387904 := by omega
        have hjz : (j : Int) ≤ 4611686018427387904 := by omega
        go_wp2_with fail
        obtain ⟨h, hh⟩ : ∃ h : Nat, h = (i + j) / 2 := ⟨_, rfl⟩
        rw [show ((i : Int) + (j : Int)) / 2 = (h : Int) by omega]
        have hh1 : i ≤ h := by omega
        have hh2 : h < j := by omega
        clear hh
        obtain ⟨q, hq⟩ : ∃ q : Nat, q = md + m - 1 - h := ⟨_, rfl⟩
        have hqz : (md : Int) + m - 1 - h = (q : Int) := by omega
        have hq1 : q + 1 + h ≤ md + m := by omega
        have hq2 : md + m ≤ q + 1 + h := by omega
        clear hq
        have hqw : IntKind.i64.wrap ((md : Int) + m - 1 - h) = (q : Int) := by rw [IntKind.wrap_i64]; omega
        have ei : ((q : Int)).toNat = q := by omega
        have pi : (0 : Int) ≤ (q : Int) := by omega
        have bi : (q : Int) < (d.size : Int) := by omega
        have ri : IntKind.i64.wrap ((q : Int)) = (q : Int) := by rw [IntKind.wrap_i64]; omega
        have ej : ((h : Int)).toNat = h := by omega
        have pj : (0 : Int) ≤ (h : Int) := by omega
        have bj : (h : Int) < (d.size : Int) := by omega
        have rj : IntKind.i64.wrap ((h : Int)) = (h : Int) := by rw [IntKind.wrap_i64]; omega
        obtain ⟨x, hx⟩ : ∃ x, x = dk[q]! := ⟨_, rfl⟩
        obtain ⟨y, hy⟩ : ∃ x, x = dk[h]! := ⟨_, rfl⟩
        have l1 := S1.out.ld R (by omega) Tryd.prog (q) (by omega)
        have l2 := S1.out.ld R (by omega) Tryd.prog (h) (by omega)
        rw [← hx] at l1
        rw [← hy] at l2
        have hc := S1.out.cmp (cmpLays k blk off d.size w0) hds x y
        clear hx hy
        by_cases hv : cfP x y < 0
        · have hd : decide (cfP x y < 0) = true := decide_eq_true hv
          go_wp2_with fail
          go_quiet_grown (first | (go_at_call 62; refine Calls.grown_of (hc _ _)))
          have S2 : Aside (SWK Prp.cells k w0 blk off dk (grow (wr.drewN nq) osq)) := S1.out.grown nq osq
          clear l1 l2 hc S1
          generalize grow (wr.drewN nq) osq = w2 at S2 ⊢
          clear nq osq
          clear hqz hqw
          go_wp2
          go_roundg (h - i)
          case measure => omega
          case rel => exact ⟨i, h, rfl, rfl, hi1, by omega, by omega, by omega, by omega, Nat.le_refl _, ⟨dk, hds, HP.out, S2.out⟩⟩
        · have hd : decide (cfP x y < 0) = false := decide_eq_false hv
          go_wp2_with fail
          go_quiet_grown (first | (go_at_call 62; refine Calls.grown_of (hc _ _)))
          have S2 : Aside (SWK Prp.cells k w0 blk off dk (grow (wr.drewN nq) osq)) := S1.out.grown nq osq
          clear l1 l2 hc S1
          generalize grow (wr.drewN nq) osq = w2 at S2 ⊢
          clear nq osq
          clear hqz hqw
          go_wp2
          go_roundg (j - (h + 1))
          case measure => omega
          case rel => exact ⟨h + 1, j, by go_num, rfl, by omega, by omega, by omega, by omega, by omega, Nat.le_refl _, ⟨dk, hds, HP.out, S2.out⟩⟩
      · have hltz : ¬ (i : Int) < (j : Int) := by omega
        have hiz : (i : Int) ≤ 4611686018427387904 := by omega
        go_upto_region 39 with fail
        obtain ⟨en, hen⟩ : ∃ q : Nat, q = md + m - i := ⟨_, rfl⟩
        rw [show (md : Int) + m - i = (en : Int) by omega]
        have hen1 : en + i ≤ md + m := by omega
        have hen2 : md + m ≤ en + i := by omega
        clear hen hltz hlt
        go_wp2_with (first
          | (go_at_call 92; refine (rotate_c (a := i) (m := m) (b := en) aE zE rfl rfl rfl R hs S0.out (by omega) (by omega) (by omega) hsz).mono ?_; rintro e w' ⟨rfl, S3⟩; have S0 : Aside (SWP k w0 blk off d w') := S3; clear S3)
          | (go_at_call 85; ((with_reducible refine (IH.out a i md _ ?_ ?_ ?_ ?_ S0.out).mono ?_); (focus omega); (focus omega); (focus omega); (focus omega); rintro e w' ⟨rfl, S3⟩); have S0 : Aside (SWP k w0 blk off d w') := S3; clear S3)
          | (go_at_call 85; ((with_reducible refine (IH.out md en b _ ?_ ?_ ?_ ?_ S0.out).mono ?_); (focus omega); (focus omega); (focus omega); (focus omega); rintro e w' ⟨rfl, S3⟩); have S0 : Aside (SWP k w0 blk off d w') := S3; clear S3))
        all_goals
          first | go_end0 | refine bodyPost_ret (results_none rfl _ _ _) rfl ?_
          exact ⟨rfl, S0.out⟩
  · have hmz2 : ¬ (md : Int) < m := by omega
    go_wp2_with fail
    clear hmz2
    go_loopg [20, 21] (b - a) (fun kx s20 s21 wr => ∃ (s t : Nat), s20 = .int .i64 s ∧ s21 = .int .i64 t ∧ a ≤ s ∧ s ≤ t ∧ t ≤ md ∧ t ≤ m ∧ md + m ≤ b + s ∧ t - s ≤ kx ∧ Aside (SWP k w0 blk off d wr))
    case atStart => exact ⟨a, m, rfl, rfl, by omega, by omega, by omega, by omega, by omega, by omega, S0⟩
    case round =>
      clear S0
      obtain ⟨i, j, rfl, rfl, hi1, hi2, hj1, hj2, hj3, hkx, S0⟩ := hrel
      by_cases hlt : i < j
      · obtain ⟨dk, hds, HP', S1'⟩ := S0.out
        have HP : Aside (PermIn 0 d.size d dk) := HP'
        have S1 : Aside (SWK Prp.cells k w0 blk off dk wr) := S1'
        clear HP' S1' S0
        have hltz : (i : Int) < (j : Int) := by omega
        have hiz : (i : Int) ≤ 4611686018427387904 := by omega
        have hjz : (j : Int) ≤ 4611686018427387904 := by omega
        go_wp2_with fail
        obtain ⟨h, hh⟩ : ∃ h : Nat, h = (i + j) / 2 := ⟨_, rfl⟩
        rw [show ((i : Int) + (j : Int)) / 2 = (h : Int) by omega]
        have hh1 : i ≤ h := by omega
        have hh2 : h < j := by omega
        clear hh
        obtain ⟨q, hq⟩ : ∃ q : Nat, q = md + m - 1 - h := ⟨_, rfl⟩
        have hqz : (md : Int) + m - 1 - h = (q : Int) := by omega
        have hq1 : q + 1 + h ≤ md + m := by omega
        have hq2 : md + m ≤ q + 1 + h := by omega
        clear hq
        have hqw : IntKind.i64.wrap ((md : Int) + m - 1 - h) = (q : Int) := by rw [IntKind.wrap_i64]; omega
        have ei : ((q : Int)).toNat = q := by omega
        have pi : (0 : Int) ≤ (q : Int) := by omega
        have bi : (q : Int) < (d.size : Int) := by omega
        have ri : IntKind.i64.wrap ((q : Int)) = (q : Int) := by rw [IntKind.wrap_i64]; omega
        have ej : ((h : Int)).toNat = h := by omega
        have pj : (0 : Int) ≤ (h : Int) := by omega
        have bj : (h : Int) < (d.size : Int) := by omega
        have rj : IntKind.i64.wrap ((h : Int)) = (h : Int) := by rw [IntKind.wrap_i64]; omega
        obtain ⟨x, hx⟩ : ∃ x, x = dk[q]! := ⟨_, rfl⟩
        obtain ⟨y, hy⟩ : ∃ x, x = dk[h]! := ⟨_, rfl⟩
        have l1 := S1.out.ld R (by omega) Tryd.prog (q) (by omega)
        have l2 := S1.out.ld R (by omega) Tryd.prog (h) (by omega)
        rw [← hx] at l1
        rw [← hy] at l2
        have hc := S1.out.cmp (cmpLays k blk off d.size w0) hds x y
        clear hx hy
        by_cases hv : cfP x y < 0
        · have hd : decide (cfP x y < 0) = true := decide_eq_true hv
          go_wp2_with fail
          go_quiet_grown (first | (go_at_call 62; refine Calls.grown_of (hc _ _)))
          have S2 : Aside (SWK Prp.cells k w0 blk off dk (grow (wr.drewN nq) osq)) := S1.out.grown nq osq
          clear l1 l2 hc S1
          generalize grow (wr.drewN nq) osq = w2 at S2 ⊢
          clear nq osq
          clear hqz hqw
          go_wp2
          go_roundg (h - i)
          case measure => omega
          case rel => exact ⟨i, h, rfl, rfl, hi1, by omega, by omega, by omega, by omega, Nat.le_refl _, ⟨dk, hds, HP.out, S2.out⟩⟩
        · have hd : decide (cfP x y < 0) = false := decide_eq_false hv
          go_wp2_with fail
          go_quiet_grown (first | (go_at_call 62; refine Calls.grown_of (hc _ _)))
          have S2 : Aside (SWK Prp.cells k w0 blk off dk (grow (wr.drewN nq) osq)) := S1.out.grown nq osq
          clear l1 l2 hc S1
          generalize grow (wr.drewN nq) osq = w2 at S2 ⊢
          clear nq osq
          clear hqz hqw
          go_wp2
          go_roundg (j - (h + 1))
          case measure => omega
          case rel => exact ⟨h + 1, j, by go_num, rfl, by omega, by omega, by omega, by omega, by omega, Nat.le_refl _, ⟨dk, hds, HP.out, S2.out⟩⟩
      · have hltz : ¬ (i : Int) < (j : Int) := by omega
        have hiz : (i : Int) ≤ 4611686018427387904 := by omega
        go_upto_region 39 with fail
        obtain ⟨en, hen⟩ : ∃ q : Nat, q = md + m - i := ⟨_, rfl⟩
        rw [show (md : Int) + m - i = (en : Int) by omega]
        have hen1 : en + i ≤ md + m := by omega
        have hen2 : md + m ≤ en + i := by omega
        clear hen hltz hlt
        go_wp2_with (first
          | (go_at_call 92; refine (rotate_c (a := i) (m := m) (b := en) aE zE rfl rfl rfl R hs S0.out (by omega) (by omega) (by omega) hsz).mono ?_; rintro e w' ⟨rfl, S3⟩; have S0 : Aside (SWP k w0 blk off d w') := S3; clear S3)
          | (go_at_call 85; ((with_reducible refine (IH.out a i md _ ?_ ?_ ?_ ?_ S0.out).mono ?_); (focus omega); (focus omega); (focus omega); (focus omega); rintro e w' ⟨rfl, S3⟩); have S0 : Aside (SWP k w0 blk off d w') := S3; clear S3)
          | (go_at_call 85; ((with_reducible refine (IH.out md en b _ ?_ ?_ ?_ ?_ S0.out).mono ?_); (focus omega); (focus omega); (focus omega); (focus omega); rintro e w' ⟨rfl, S3⟩); have S0 : Aside (SWP k w0 blk off d w') := S3; clear S3))
        all_goals
          first | go_end0 | refine bodyPost_ret (results_none rfl _ _ _) rfl ?_
          exact ⟨rfl, S0.out⟩
end Go.Proofs.YteigbejidfkhpaaDoor
