/- Stable sorting of properties by their names: the merge, going on. -/
import Derived.Test.YteigbejidfkhpaaDoorSoB
namespace Go.Proofs.YteigbejidfkhpaaDoor
open Go Go.Proofs Go.RowKit Go.Lib Go.Sort Go.Shelf
set_option linter.unusedSimpArgs false
set_option linter.unusedVariables false

set_option maxHeartbeats 8000000 in
set_option maxRecDepth 1000000 in
theorem symMerge_last {k : Nat} (aE : ∀ w, (isAgg 48).run Tryd.prog w = .ok true w) (zE : ∀ w, (Go.sizeOf 48).run Tryd.prog w = .ok k w) {w0 w : World} {blk off cap a m b : Nat} {d0 d : Array Prp} (R : RowK Prp.cells k w0 blk off d0) (hs : d0.size = d.size) (S : SWP k w0 blk off d w) (ham : a < m) (hmb : m < b) (hb : b ≤ d.size) (hsz : d.size < 4611686018427387904) (h0 : ¬ m = a + 1) (h1 : b = m + 1) :
    Calls Tryd.prog 85 #[.slice (some ⟨blk, off, none⟩) d.size cap, .int .i64 a, .int .i64 m, .int .i64 b, .func (.func 62) #[] #[]] w fun e w' => e = .returned (.tuple #[]) ∧ SWP k w0 blk off d w' := by
  have mixed : Tryd.prog.follows .mixedOrders = true := by kernel_rfl
  have S0 : Aside (SWP k w0 blk off d w) := S
  have hmz : (m : Int) ≤ 4611686018427387904 := by omega
  have hbz : (b : Int) ≤ 4611686018427387904 := by omega
  have ham1 : (a : Int) < m := by omega
  have hmb1 : (m : Int) < b := by omega
  clear S
  have hnone : ((m : Int) - a == 1) = false := beq_eq_false_iff_ne.2 (by omega)
  have hone : ((b : Int) - m == 1) = true := beq_iff_eq.2 (by omega)
  have h1p : b ≤ m + 1 := by omega
  clear h1 h0
  go_enter Tryd.func85, Tryd.ntmps85
  go_wp2_with fail
  go_loopg [14, 15] (b - a) (fun kx s10 s11 wr => ∃ (i j : Nat), s10 = .int .i64 i ∧ s11 = .int .i64 j ∧ a ≤ i ∧ i ≤ j ∧ j ≤ m ∧ j - i ≤ kx ∧ Aside (SWP k w0 blk off d wr))
  case atStart => exact ⟨a, m, rfl, rfl, Nat.le_refl _, by omega, Nat.le_refl _, by omega, S0⟩
  case round =>
    clear S0
    obtain ⟨i, j, rfl, rfl, hi1, hi2, hj2, hkx, S0⟩ := hrel
    obtain ⟨dk, hds, HP', S1'⟩ := S0.out
    have HP : Aside (PermIn 0 d.size d dk) := HP'
    have S1 : Aside (SWK Prp.cells k w0 blk off dk wr) := S1'
    clear HP' S1' S0
    by_cases hlt : i < j
    · have hltz : (i : Int) < (j : Int) := by omega
      have hiz : (i : Int) ≤ 4611686018427387904 := by omega
      have hjz : (j : Int) ≤ 4611686018427387904 := by omega
      go_wp2_with fail
      obtain ⟨h, hh⟩ : ∃ h : Nat, h = (i + j) / 2 := ⟨_, rfl⟩
      rw [show ((i : Int) + (j : Int)) / 2 = (h : Int) by omega]
      have hh1 : i ≤ h := by omega
      have hh2 : h < j := by omega
      clear hh
      have ei : ((m : Int)).toNat = m := by omega
      have pi : (0 : Int) ≤ (m : Int) := by omega
      have bi : (m : Int) < (d.size : Int) := by omega
      have ri : IntKind.i64.wrap ((m : Int)) = (m : Int) := by rw [IntKind.wrap_i64]; omega
      have ej : ((h : Int)).toNat = h := by omega
      have pj : (0 : Int) ≤ (h : Int) := by omega
      have bj : (h : Int) < (d.size : Int) := by omega
      have rj : IntKind.i64.wrap ((h : Int)) = (h : Int) := by rw [IntKind.wrap_i64]; omega
      obtain ⟨x, hx⟩ : ∃ x, x = dk[m]! := ⟨_, rfl⟩
      obtain ⟨y, hy⟩ : ∃ x, x = dk[h]! := ⟨_, rfl⟩
      have l1 := S1.out.ld R (by omega) Tryd.prog (m) (by omega)
      have l2 := S1.out.ld R (by omega) Tryd.prog (h) (by omega)
      rw [← hx] at l1
      rw [← hy] at l2
      have hc := S1.out.cmp (cmpLays k blk off d.size w0) hds x y
      clear hx hy
      by_cases hv : cfP x y < 0
      · have hd : decide (cfP x y < 0) = true := decide_eq_true hv
        go_wp2_with fail
        go_quiet_grown (first | (go_at_call 62; refine Calls.grown_of (hc _ _)))
        have S2 : Aside (SWK Prp.cells k w0 blk off dk (grow (wr.drewN nq) osq)) := S1.out.grown nq osq
        clear l1 l2 hc S1
        generalize grow (wr.drewN nq) osq = w2 at S2 ⊢
        clear nq osq
        go_wp2
        go_roundg (h - i)
        case measure => omega
        case rel => exact ⟨i, h, rfl, rfl, hi1, by omega, by omega, Nat.le_refl _, ⟨dk, hds, HP.out, S2.out⟩⟩
      · have hd : decide (cfP x y < 0) = false := decide_eq_false hv
        go_wp2_with fail
        go_quiet_grown (first | (go_at_call 62; refine Calls.grown_of (hc _ _)))
        have S2 : Aside (SWK Prp.cells k w0 blk off dk (grow (wr.drewN nq) osq)) := S1.out.grown nq osq
        clear l1 l2 hc S1
        generalize grow (wr.drewN nq) osq = w2 at S2 ⊢
        clear nq osq
        go_wp2
        go_roundg (j - (h + 1))
        case measure => omega
        case rel => exact ⟨h + 1, j, by go_num, rfl, by omega, by omega, hj2, Nat.le_refl _, ⟨dk, hds, HP.out, S2.out⟩⟩
    · have hltz : ¬ (i : Int) < (j : Int) := by omega
      have hiz : (i : Int) ≤ 4611686018427387904 := by omega
      have hi0 : (0 : Int) ≤ i := by omega
      go_wp2_with fail
      go_loopg [17] (b - a) (fun kx s13 wr => ∃ (q : Nat) (dk : Array Prp), s13 = .int .i64 q ∧ i ≤ q ∧ q ≤ m ∧ q - i ≤ kx ∧ dk.size = d.size ∧ Aside (PermIn 0 d.size d dk) ∧ Aside (SWK Prp.cells k w0 blk off dk wr))
      case atStart => exact ⟨m, dk, rfl, by omega, Nat.le_refl _, by omega, hds, HP, S1⟩
      case round =>
        clear HP S1 hds dk
        obtain ⟨q, dk, rfl, hq1, hq2, hkx2, hds, HP, S1⟩ := hrel
        by_cases hlt2 : i < q
        · have hltz2 : (i : Int) < (q : Int) := by omega
          obtain ⟨p, rfl⟩ : ∃ p, q = p + 1 := ⟨q - 1, by omega⟩
          have hltz3 : (i : Int) < (p : Int) + 1 := by omega
          have hwp : IntKind.i64.wrap (p : Int) = (p : Int) := by rw [IntKind.wrap_i64]; omega
          have ei : ((p : Int) + 1).toNat = p + 1 := by omega
          have pi : (0 : Int) ≤ (p : Int) + 1 := by omega
          have bi : (p : Int) + 1 < (d.size : Int) := by omega
          have ri : IntKind.i64.wrap ((p : Int) + 1) = (p : Int) + 1 := by rw [IntKind.wrap_i64]; omega
          have ej : ((p : Int)).toNat = p := by omega
          have pj : (0 : Int) ≤ (p : Int) := by omega
          have bj : (p : Int) < (d.size : Int) := by omega
          have rj : IntKind.i64.wrap ((p : Int)) = (p : Int) := by rw [IntKind.wrap_i64]; omega
          have S2 : Aside (SWK Prp.cells k w0 blk off (swp dk (p + 1) (p)) ((wr.drew.setCells blk (off + (p + 1) * k) (Prp.cells dk[p]!)).setCells blk (off + (p) * k) (Prp.cells dk[p + 1]!))) := S1.out.swapped R (p + 1) (p) (by omega) (by omega)
          have l1 := S1.out.ld1 R (by omega) Tryd.prog (p + 1) (by omega)
          have l2 := S1.out.ld1 R (by omega) Tryd.prog (p) (by omega)
          have s1 := S1.out.st1 R (by omega) Tryd.prog (p + 1) (by omega) dk[p]!
          have s2 := S1.out.st2 R (by omega) Tryd.prog (p + 1) (p) (by omega) (by omega) dk[p]! dk[p + 1]!
          have n1 : (Prp.cells dk[p + 1]!).length = k := R.hk _
          have n2 : (Prp.cells dk[p]!).length = k := R.hk _
          generalize Prp.cells dk[p + 1]! = cI at S2 l1 s2 n1
          generalize Prp.cells dk[p]! = cJ at S2 l2 s1 s2 n2
          clear S1
          go_wp2_with fail
          go_big_region_o
          clear l1 l2 s1 s2
          generalize (wr.drew.setCells blk (off + (p + 1) * k) cJ).setCells blk (off + (p) * k) cI = w2 at S2 ⊢
          go_wp2
          go_roundg (p - i)
          case measure => omega
          case rel => exact ⟨p, swp dk (p + 1) p, by go_num, by omega, by omega, by omega, by rw [size_swp]; exact hds, permIn_trans d dk _ 0 d.size HP.out (by rw [← hds]; exact swp_permIn dk 0 dk.size (p + 1) (p) (Nat.zero_le _) (by omega) (Nat.zero_le _) (by omega) (Nat.le_refl _)), S2⟩
        · have hltz2 : ¬ (i : Int) < (q : Int) := by omega
          go_wp2
          first | go_end0 | refine bodyPost_ret (results_none rfl _ _ _) rfl ?_
          exact ⟨rfl, dk, hds, HP.out, S1.out⟩
end Go.Proofs.YteigbejidfkhpaaDoor
