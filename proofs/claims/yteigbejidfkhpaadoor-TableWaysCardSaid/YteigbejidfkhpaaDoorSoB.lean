/- Stable sorting of properties by their names: rotations; the merge. -/
import Derived.Test.YteigbejidfkhpaaDoorSoA
namespace Go.Proofs.YteigbejidfkhpaaDoor
open Go Go.Proofs Go.RowKit Go.Lib Go.Sort Go.Shelf
set_option linter.unusedSimpArgs false
set_option linter.unusedVariables false

theorem swapRange_c2 {k : Nat} (aE : ∀ w, (isAgg 48).run Tryd.prog w = .ok true w) (zE : ∀ w, (Go.sizeOf 48).run Tryd.prog w = .ok k w) {w0 w : World} {blk off cap a b n : Nat} {d0 d dk : Array Prp} {fv : Value} {ai bi ni : Int} (hai : ai = a) (hbi : bi = b) (hni : ni = n) (R : RowK Prp.cells k w0 blk off d0) (hs : d0.size = d.size) (hd : dk.size = d.size) (HP : PermIn 0 d.size d dk) (S : SWK Prp.cells k w0 blk off dk w) (ha : a + n ≤ d.size) (hb : b + n ≤ d.size) (hsz : d.size < 4611686018427387904) :
    Calls Tryd.prog 96 #[.slice (some ⟨blk, off, none⟩) d.size cap, .int .i64 ai, .int .i64 bi, .int .i64 ni, fv] w fun e w' => e = .returned (.tuple #[]) ∧ SWP k w0 blk off d w' := by
  subst hai hbi hni
  have h := swapRange_c (cap := cap) (fv := fv) aE zE R (hs.trans hd.symm) S (by omega) (by omega) (by omega) (a := a) (b := b) (n := n)
  rw [hd] at h
  exact h.mono fun e w' ⟨h1, h2⟩ => ⟨h1, h2.of HP⟩

set_option maxHeartbeats 4000000 in
set_option maxRecDepth 1000000 in
theorem rotate_c {k : Nat} (aE : ∀ w, (isAgg 48).run Tryd.prog w = .ok true w) (zE : ∀ w, (Go.sizeOf 48).run Tryd.prog w = .ok k w) {w0 w : World} {blk off cap a m b : Nat} {d0 d : Array Prp} {fv : Value} {ai mi bi : Int} (hai : ai = a) (hmi : mi = m) (hbi : bi = b) (R : RowK Prp.cells k w0 blk off d0) (hs : d0.size = d.size) (S : SWP k w0 blk off d w) (ham : a < m) (hmb : m < b) (hb : b ≤ d.size) (hsz : d.size < 4611686018427387904) :
    Calls Tryd.prog 92 #[.slice (some ⟨blk, off, none⟩) d.size cap, .int .i64 ai, .int .i64 mi, .int .i64 bi, fv] w fun e w' => e = .returned (.tuple #[]) ∧ SWP k w0 blk off d w' := by
  subst hai hmi hbi
  have S0 : Aside (SWP k w0 blk off d w) := S
  have hmz : (m : Int) ≤ 4611686018427387904 := by omega
  have hbz : (b : Int) ≤ 4611686018427387904 := by omega
  have ham1 : (a : Int) < m := by omega
  have hmb1 : (m : Int) < b := by omega
  clear S
  go_enter Tryd.func92, Tryd.ntmps92
  go_wp2
  go_loopg [10, 11] (b - a) (fun kx s10 s11 wr => ∃ (i j : Nat), s10 = .int .i64 i ∧ s11 = .int .i64 j ∧ 1 ≤ i ∧ a + i ≤ m ∧ 1 ≤ j ∧ m + j ≤ b ∧ i + j ≤ kx ∧ Aside (SWP k w0 blk off d wr))
  case atStart => exact ⟨m - a, b - m, by congr 1; omega, by congr 1; omega, by omega, by omega, by omega, by omega, by omega, S0⟩
  case round =>
    clear S0
    obtain ⟨i, j, rfl, rfl, hi1, hi2, hj1, hj2, hkx, S1⟩ := hrel
    by_cases heq : i = j
    · subst heq
      go_wp2_with fail
      obtain ⟨dk, hd, HP, S2⟩ := S1.out
      refine (swapRange_c2 (a := m - i) (b := m) (n := i) aE zE (by omega) rfl rfl R hs hd HP S2 (by omega) (by omega) hsz).mono ?_
      rintro e w' ⟨rfl, S3⟩
      have S3' : Aside (SWP k w0 blk off d w') := S3
      clear S3 S2 HP hd
      go_wp2_with fail
      go_end0
      exact ⟨rfl, S3'.out⟩
    · have hne : ((i : Int) == (j : Int)) = false := beq_eq_false_iff_ne.2 (by omega)
      have hne2 : ((i : Int) != (j : Int)) = true := by simp; omega
      have hne3 : (i == j) = false := beq_eq_false_iff_ne.2 heq
      have hne4 : (i != j) = true := by simp; omega
      by_cases hlt : j < i
      · have hltz : (j : Int) < (i : Int) := by omega
        clear heq
        go_wp2_with fail
        obtain ⟨dk, hd, HP, S2⟩ := S1.out
        refine (swapRange_c2 (a := m - i) (b := m) (n := j) aE zE (by omega) rfl rfl R hs hd HP S2 (by omega) (by omega) hsz).mono ?_
        rintro e w' ⟨rfl, S3⟩
        have S3' : Aside (SWP k w0 blk off d w') := S3
        clear S3 S2 HP hd
        go_wp2_with fail
        go_roundg (i - j + j)
        case measure => omega
        case rel => exact ⟨i - j, j, by congr 1; omega, rfl, by omega, by omega, by omega, by omega, by omega, S3'⟩
      · have hltz : ¬ (j : Int) < (i : Int) := by omega
        have hlt2 : (i : Int) < j := by omega
        clear heq
        go_wp2_with fail
        obtain ⟨dk, hd, HP, S2⟩ := S1.out
        refine (swapRange_c2 (a := m - i) (b := m + j - i) (n := i) aE zE (by omega) (by omega) rfl R hs hd HP S2 (by omega) (by omega) hsz).mono ?_
        rintro e w' ⟨rfl, S3⟩
        have S3' : Aside (SWP k w0 blk off d w') := S3
        clear S3 S2 HP hd
        go_wp2_with fail
        go_roundg (i + (j - i))
        case measure => omega
        case rel => exact ⟨i, j - i, rfl, by congr 1; omega, by omega, by omega, by omega, by omega, by omega, S3'⟩

set_option maxHeartbeats 8000000 in
set_option maxRecDepth 1000000 in
theorem symMerge_first {k : Nat} (aE : ∀ w, (isAgg 48).run Tryd.prog w = .ok true w) (zE : ∀ w, (Go.sizeOf 48).run Tryd.prog w = .ok k w) {w0 w : World} {blk off cap a m b : Nat} {d0 d : Array Prp} (R : RowK Prp.cells k w0 blk off d0) (hs : d0.size = d.size) (S : SWP k w0 blk off d w) (ham : a < m) (hmb : m < b) (hb : b ≤ d.size) (hsz : d.size < 4611686018427387904) (h1 : m = a + 1) :
    Calls Tryd.prog 85 #[.slice (some ⟨blk, off, none⟩) d.size cap, .int .i64 a, .int .i64 m, .int .i64 b, .func (.func 62) #[] #[]] w fun e w' => e = .returned (.tuple #[]) ∧ SWP k w0 blk off d w' := by
  have mixed : Tryd.prog.follows .mixedOrders = true := by kernel_rfl
  have S0 : Aside (SWP k w0 blk off d w) := S
  have hmz : (m : Int) ≤ 4611686018427387904 := by omega
  have hbz : (b : Int) ≤ 4611686018427387904 := by omega
  have ham1 : (a : Int) < m := by omega
  have hmb1 : (m : Int) < b := by omega
  clear S
  have hone : ((m : Int) - a == 1) = true := beq_iff_eq.2 (by omega)
  have h1p : m ≤ a + 1 := by omega
  clear h1
  go_enter Tryd.func85, Tryd.ntmps85
  go_wp2_with fail
  go_loopg [10, 11] (b - a) (fun kx s10 s11 wr => ∃ (i j : Nat), s10 = .int .i64 i ∧ s11 = .int .i64 j ∧ m ≤ i ∧ i ≤ j ∧ j ≤ b ∧ j - i ≤ kx ∧ Aside (SWP k w0 blk off d wr))
  case atStart => exact ⟨m, b, rfl, rfl, Nat.le_refl _, by omega, Nat.le_refl _, by omega, S0⟩
  case round =>
    clear S0
    obtain ⟨i, j, rfl, rfl, hi1, hi2, hj2, hkx, S0⟩ := hrel
    obtain ⟨dk, hds, HP', S1'⟩ := S0.out
    have HP : Aside (PermIn 0 d.size d dk) := HP'
    have S1 : Aside (SWK Prp.cells k w0 blk off dk wr) := S1'
    clear HP' S1' S0
    by_cases hlt : i < j
    · have hltz : (i : Int) < (j : Int) := by omega
      have hiz : (i : Int) ≤ 4611686018427387904 := by omega
      have hjz : (j : Int) ≤ 4611686018427387904 := by omega
      go_wp2_with fail
      obtain ⟨h, hh⟩ : ∃ h : Nat, h = (i + j) / 2 := ⟨_, rfl⟩
      rw [show ((i : Int) + (j : Int)) / 2 = (h : Int) by omega]
      have hh1 : i ≤ h := by omega
      have hh2 : h < j := by omega
      clear hh
      have ei : ((h : Int)).toNat = h := by omega
      have pi : (0 : Int) ≤ (h : Int) := by omega
      have bi : (h : Int) < (d.size : Int) := by omega
      have ri : IntKind.i64.wrap ((h : Int)) = (h : Int) := by rw [IntKind.wrap_i64]; omega
      have ej : ((a : Int)).toNat = a := by omega
      have pj : (0 : Int) ≤ (a : Int) := by omega
      have bj : (a : Int) < (d.size : Int) := by omega
      have rj : IntKind.i64.wrap ((a : Int)) = (a : Int) := by rw [IntKind.wrap_i64]; omega
      obtain ⟨x, hx⟩ : ∃ x, x = dk[h]! := ⟨_, rfl⟩
      obtain ⟨y, hy⟩ : ∃ x, x = dk[a]! := ⟨_, rfl⟩
      have l1 := S1.out.ld R (by omega) Tryd.prog (h) (by omega)
      have l2 := S1.out.ld R (by omega) Tryd.prog (a) (by omega)
      rw [← hx] at l1
      rw [← hy] at l2
      have hc := S1.out.cmp (cmpLays k blk off d.size w0) hds x y
      clear hx hy
      by_cases hv : cfP x y < 0
      · have hd : decide (cfP x y < 0) = true := decide_eq_true hv
        go_wp2_with fail
        go_quiet_grown (first | (go_at_call 62; refine Calls.grown_of (hc _ _)))
        have S2 : Aside (SWK Prp.cells k w0 blk off dk (grow (wr.drewN nq) osq)) := S1.out.grown nq osq
        clear l1 l2 hc S1
        generalize grow (wr.drewN nq) osq = w2 at S2 ⊢
        clear nq osq
        go_wp2
        go_roundg (j - (h + 1))
        case measure => omega
        case rel => exact ⟨h + 1, j, by go_num, rfl, by omega, by omega, hj2, Nat.le_refl _, ⟨dk, hds, HP.out, S2.out⟩⟩
      · have hd : decide (cfP x y < 0) = false := decide_eq_false hv
        go_wp2_with fail
        go_quiet_grown (first | (go_at_call 62; refine Calls.grown_of (hc _ _)))
        have S2 : Aside (SWK Prp.cells k w0 blk off dk (grow (wr.drewN nq) osq)) := S1.out.grown nq osq
        clear l1 l2 hc S1
        generalize grow (wr.drewN nq) osq = w2 at S2 ⊢
        clear nq osq
        go_wp2
        go_roundg (h - i)
        case measure => omega
        case rel => exact ⟨i, h, rfl, rfl, hi1, by omega, by omega, Nat.le_refl _, ⟨dk, hds, HP.out, S2.out⟩⟩
    · have hltz : ¬ (i : Int) < (j : Int) := by omega
      have hiz : (i : Int) ≤ 4611686018427387904 := by omega
      have hi0 : (1 : Int) ≤ i := by omega
      go_wp2_with fail
      go_loopg [13] (b - a) (fun kx s13 wr => ∃ (q : Nat) (dk : Array Prp), s13 = .int .i64 q ∧ a ≤ q ∧ q ≤ i - 1 ∧ i - q ≤ kx + 1 ∧ dk.size = d.size ∧ Aside (PermIn 0 d.size d dk) ∧ Aside (SWK Prp.cells k w0 blk off dk wr))
      case atStart => exact ⟨a, dk, rfl, Nat.le_refl _, by omega, by omega, hds, HP, S1⟩
      case round =>
        clear HP S1 hds dk
        obtain ⟨q, dk, rfl, hq1, hq2, hkx2, hds, HP, S1⟩ := hrel
        by_cases hlt2 : q < i - 1
        · have hltz2 : (q : Int) < (i : Int) - 1 := by omega
          have hltz3 : (q : Int) + 1 < (i : Int) := by omega
          have ei : ((q : Int)).toNat = q := by omega
          have pi : (0 : Int) ≤ (q : Int) := by omega
          have bi : (q : Int) < (d.size : Int) := by omega
          have ri : IntKind.i64.wrap ((q : Int)) = (q : Int) := by rw [IntKind.wrap_i64]; omega
          have ej : ((q : Int) + 1).toNat = q + 1 := by omega
          have pj : (0 : Int) ≤ (q : Int) + 1 := by omega
          have bj : (q : Int) + 1 < (d.size : Int) := by omega
          have rj : IntKind.i64.wrap ((q : Int) + 1) = (q : Int) + 1 := by rw [IntKind.wrap_i64]; omega
          have S2 : Aside (SWK Prp.cells k w0 blk off (swp dk (q) (q + 1)) ((wr.drew.setCells blk (off + (q) * k) (Prp.cells dk[q + 1]!)).setCells blk (off + (q + 1) * k) (Prp.cells dk[q]!))) := S1.out.swapped R (q) (q + 1) (by omega) (by omega)
          have l1 := S1.out.ld1 R (by omega) Tryd.prog (q) (by omega)
          have l2 := S1.out.ld1 R (by omega) Tryd.prog (q + 1) (by omega)
          have s1 := S1.out.st1 R (by omega) Tryd.prog (q) (by omega) dk[q + 1]!
          have s2 := S1.out.st2 R (by omega) Tryd.prog (q) (q + 1) (by omega) (by omega) dk[q + 1]! dk[q]!
          have n1 : (Prp.cells dk[q]!).length = k := R.hk _
          have n2 : (Prp.cells dk[q + 1]!).length = k := R.hk _
          generalize Prp.cells dk[q]! = cI at S2 l1 s2 n1
          generalize Prp.cells dk[q + 1]! = cJ at S2 l2 s1 s2 n2
          clear S1
          go_wp2_with fail
          go_big_region_o
          clear l1 l2 s1 s2
          generalize (wr.drew.setCells blk (off + (q) * k) cJ).setCells blk (off + (q + 1) * k) cI = w2 at S2 ⊢
          go_wp2
          go_roundg (i - (q + 1) - 1)
          case measure => omega
          case rel => exact ⟨q + 1, swp dk q (q + 1), by go_num, by omega, by omega, by omega, by rw [size_swp]; exact hds, permIn_trans d dk _ 0 d.size HP.out (by rw [← hds]; exact swp_permIn dk 0 dk.size (q) (q + 1) (Nat.zero_le _) (by omega) (Nat.zero_le _) (by omega) (Nat.le_refl _)), S2⟩
        · have hltz2 : ¬ (q : Int) < (i : Int) - 1 := by omega
          have hltz3 : ¬ (q : Int) + 1 < (i : Int) := by omega
          go_wp2
          first | go_end0 | refine bodyPost_ret (results_none rfl _ _ _) rfl ?_
          exact ⟨rfl, dk, hds, HP.out, S1.out⟩
end Go.Proofs.YteigbejidfkhpaaDoor
