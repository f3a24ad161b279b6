/- Texts of this claim, joined: SoA, SoB, SoC, SoD, SoE, SoF, TkC, TbM, TbN, TbO, TkG, RgD, RgE, RgA, RgB, RfA, TbG, RfB, RgW, RgC, RkA. -/
import Derived.Test.YteigbejidfkhpaaDoorMTtb0
import Derived.Shelf.SlSortCmp.KitK
import Derived.Sort.WalkB2
import Derived.Sort.WalkB12
import Derived.Deep.LoopGhost
import Derived.Deep.DeepCutAuto
import Derived.Deep.CutRange
import Derived.Sort.Walk0
import Derived.Shelf.SlLaysF0
import Derived.Sort.LotA
/- Stable sorting of properties by their names: the comparison; exchanges of ranges. -/
namespace Go.Proofs.YteigbejidfkhpaaDoor
open Go Go.Proofs Go.RowKit Go.Lib Go.Sort Go.Shelf
set_option linter.unusedSimpArgs false
set_option linter.unusedVariables false

instance : Inhabited Prp := ⟨⟨ByteArray.empty, 0, 0, ByteArray.empty, 0⟩⟩
def cfP (x y : Prp) : Int := Lib.compareBytes x.nm.data.toList y.nm.data.toList

set_option maxRecDepth 100000 in
theorem cmpP_c {w : World} (x y : Prp) : Calls Tryd.prog 62 #[.agg #[.string x.nm, .int .i64 x.k, .int .i64 x.n, .string x.t, .float .f64 x.r], .agg #[.string y.nm, .int .i64 y.k, .int .i64 y.n, .string y.t, .float .f64 y.r]] w fun e w' => e = .returned (.int .i64 (cfP x y)) ∧ ∃ q os', w' = grow (w.drewN q) os' := by
  go_enter Tryd.func62, Tryd.ntmps62
  go_wp2_with fail
  refine (Tryd.strings_Compare x.nm y.nm _).mono ?_
  rintro e w' ⟨rfl, rfl⟩
  go_wp2_with fail
  go_ret
  refine ⟨rfl, 0, #[.cells #[.string x.nm, .int .i64 x.k, .int .i64 x.n, .string x.t, .float .f64 x.r] 48] ++ #[.cells #[.string y.nm, .int .i64 y.k, .int .i64 y.n, .string y.t, .float .f64 y.r] 48], ?_⟩
  rw [alloc_eq_grow, alloc_eq_grow, grow_grow]
  rfl
theorem cmpLays (k blk off size : Nat) (w : World) : CmpLays Tryd.prog 62 #[] Prp.cells k cfP blk off size w := fun m os dk _ x y => cmpP_c x y

/-- Some permutation of what the row held. -/
def SWP (k : Nat) (w0 : World) (blk off : Nat) (d : Array Prp) (W : World) : Prop := ∃ dk : Array Prp, dk.size = d.size ∧ PermIn 0 d.size d dk ∧ SWK Prp.cells k w0 blk off dk W
theorem SWP.refl {k : Nat} {w0 W : World} {blk off : Nat} {d : Array Prp} (h : SWK Prp.cells k w0 blk off d W) : SWP k w0 blk off d W := ⟨d, rfl, permIn_refl _ _ _, h⟩
theorem SWP.of {k : Nat} {w0 W : World} {blk off : Nat} {d d' : Array Prp} (hp : PermIn 0 d.size d d') (h : SWP k w0 blk off d' W) : SWP k w0 blk off d W := by
  obtain ⟨dk, h1, h2, h3⟩ := h
  have hs : d'.size = d.size := hp.1
  exact ⟨dk, by omega, permIn_trans d d' dk 0 d.size hp (by rw [← hs]; exact h2), h3⟩

set_option maxHeartbeats 4000000 in
set_option maxRecDepth 1000000 in
theorem swapRange_c {k : Nat} (aE : ∀ w, (isAgg 48).run Tryd.prog w = .ok true w) (zE : ∀ w, (Go.sizeOf 48).run Tryd.prog w = .ok k w) {w0 w : World} {blk off cap a b n : Nat} {d0 d : Array Prp} {fv : Value} (R : RowK Prp.cells k w0 blk off d0) (hs : d0.size = d.size) (S : SWK Prp.cells k w0 blk off d w) (ha : a + n ≤ d.size) (hb : b + n ≤ d.size) (hsz : d.size < 4611686018427387904) :
    Calls Tryd.prog 96 #[.slice (some ⟨blk, off, none⟩) d.size cap, .int .i64 a, .int .i64 b, .int .i64 n, fv] w fun e w' => e = .returned (.tuple #[]) ∧ SWP k w0 blk off d w' := by
  have mixed : Tryd.prog.follows .mixedOrders = true := by kernel_rfl
  have S0 : Aside (SWK Prp.cells k w0 blk off d w) := S
  clear S
  go_enter Tryd.func96, Tryd.ntmps96
  go_wp2
  go_loopg [10] n (fun kx s10 wr => ∃ (i : Nat) (dk : Array Prp), s10 = .int .i64 i ∧ i ≤ n ∧ n - i ≤ kx ∧ dk.size = d.size ∧ Aside (PermIn 0 d.size d dk) ∧ Aside (SWK Prp.cells k w0 blk off dk wr))
  case atStart => exact ⟨0, d, rfl, Nat.zero_le _, Nat.le_refl _, rfl, permIn_refl _ _ _, S0⟩
  case round =>
    clear S0
    obtain ⟨i, dk, rfl, hi, hkx, hds, HP, S1⟩ := hrel
    by_cases hlt : i < n
    · have hltz : (i : Int) < (n : Int) := by omega
      go_wp2_with fail
      have ea : ((a : Int) + (i : Int)).toNat = a + i := by omega
      have pa : (0 : Int) ≤ (a : Int) + (i : Int) := by omega
      have ba : (a : Int) + (i : Int) < (d.size : Int) := by omega
      have ra : IntKind.i64.wrap ((a : Int) + (i : Int)) = (a : Int) + (i : Int) := by rw [IntKind.wrap_i64]; omega
      have eb : ((b : Int) + (i : Int)).toNat = b + i := by omega
      have pb : (0 : Int) ≤ (b : Int) + (i : Int) := by omega
      have bb : (b : Int) + (i : Int) < (d.size : Int) := by omega
      have rb : IntKind.i64.wrap ((b : Int) + (i : Int)) = (b : Int) + (i : Int) := by rw [IntKind.wrap_i64]; omega
      have S2 : Aside (SWK Prp.cells k w0 blk off (swp dk (a + i) (b + i)) ((wr.drew.setCells blk (off + (a + i) * k) (Prp.cells dk[b + i]!)).setCells blk (off + (b + i) * k) (Prp.cells dk[a + i]!))) := S1.out.swapped R (a + i) (b + i) (by omega) (by omega)
      have l1 := S1.out.ld1 R (by omega) Tryd.prog (a + i) (by omega)
      have l2 := S1.out.ld1 R (by omega) Tryd.prog (b + i) (by omega)
      have s1 := S1.out.st1 R (by omega) Tryd.prog (a + i) (by omega) dk[b + i]!
      have s2 := S1.out.st2 R (by omega) Tryd.prog (a + i) (b + i) (by omega) (by omega) dk[b + i]! dk[a + i]!
      have n1 : (Prp.cells dk[a + i]!).length = k := R.hk _
      have n2 : (Prp.cells dk[b + i]!).length = k := R.hk _
      generalize Prp.cells dk[a + i]! = cI at S2 l1 s2 n1
      generalize Prp.cells dk[b + i]! = cJ at S2 l2 s1 s2 n2
      clear S1
      go_wp2_with fail
      go_big_region_o
      clear l1 l2 s1 s2
      generalize (wr.drew.setCells blk (off + (a + i) * k) cJ).setCells blk (off + (b + i) * k) cI = w2 at S2 ⊢
      go_wp2
      go_roundg (n - (i + 1))
      case measure => omega
      case rel => exact ⟨i + 1, swp dk (a + i) (b + i), by simp, by omega, Nat.le_refl _, by rw [size_swp]; exact hds, permIn_trans d dk _ 0 d.size HP.out (by rw [← hds]; exact swp_permIn dk 0 dk.size (a + i) (b + i) (Nat.zero_le _) (by omega) (Nat.zero_le _) (by omega) (Nat.le_refl _)), S2⟩
    · have hnot : ¬ (i : Int) < (n : Int) := by omega
      go_wp2
      go_end0
      exact ⟨rfl, dk, hds, HP.out, S1.out⟩
end Go.Proofs.YteigbejidfkhpaaDoor

/- Stable sorting of properties by their names: rotations; the merge. -/
namespace Go.Proofs.YteigbejidfkhpaaDoor
open Go Go.Proofs Go.RowKit Go.Lib Go.Sort Go.Shelf
set_option linter.unusedSimpArgs false
set_option linter.unusedVariables false

theorem swapRange_c2 {k : Nat} (aE : ∀ w, (isAgg 48).run Tryd.prog w = .ok true w) (zE : ∀ w, (Go.sizeOf 48).run Tryd.prog w = .ok k w) {w0 w : World} {blk off cap a b n : Nat} {d0 d dk : Array Prp} {fv : Value} {ai bi ni : Int} (hai : ai = a) (hbi : bi = b) (hni : ni = n) (R : RowK Prp.cells k w0 blk off d0) (hs : d0.size = d.size) (hd : dk.size = d.size) (HP : PermIn 0 d.size d dk) (S : SWK Prp.cells k w0 blk off dk w) (ha : a + n ≤ d.size) (hb : b + n ≤ d.size) (hsz : d.size < 4611686018427387904) :
    Calls Tryd.prog 96 #[.slice (some ⟨blk, off, none⟩) d.size cap, .int .i64 ai, .int .i64 bi, .int .i64 ni, fv] w fun e w' => e = .returned (.tuple #[]) ∧ SWP k w0 blk off d w' := by
  subst hai hbi hni
  have h := swapRange_c (cap := cap) (fv := fv) aE zE R (hs.trans hd.symm) S (by omega) (by omega) (by omega) (a := a) (b := b) (n := n)
  rw [hd] at h
  exact h.mono fun e w' ⟨h1, h2⟩ => ⟨h1, h2.of HP⟩

set_option maxHeartbeats 4000000 in
set_option maxRecDepth 1000000 in
theorem rotate_c {k : Nat} (aE : ∀ w, (isAgg 48).run Tryd.prog w = .ok true w) (zE : ∀ w, (Go.sizeOf 48).run Tryd.prog w = .ok k w) {w0 w : World} {blk off cap a m b : Nat} {d0 d : Array Prp} {fv : Value} {ai mi bi : Int} (hai : ai = a) (hmi : mi = m) (hbi : bi = b) (R : RowK Prp.cells k w0 blk off d0) (hs : d0.size = d.size) (S : SWP k w0 blk off d w) (ham : a < m) (hmb : m < b) (hb : b ≤ d.size) (hsz : d.size < 4611686018427387904) :
    Calls Tryd.prog 92 #[.slice (some ⟨blk, off, none⟩) d.size cap, .int .i64 ai, .int .i64 mi, .int .i64 bi, fv] w fun e w' => e = .returned (.tuple #[]) ∧ SWP k w0 blk off d w' := by
  subst hai hmi hbi
  have S0 : Aside (SWP k w0 blk off d w) := S
  have hmz : (m : Int) ≤ 4611686018427387904 := by omega
  have hbz : (b : Int) ≤ 4611686018427387904 := by omega
  have ham1 : (a : Int) < m := by omega
  have hmb1 : (m : Int) < b := by omega
  clear S
  go_enter Tryd.func92, Tryd.ntmps92
  go_wp2
  go_loopg [10, 11] (b - a) (fun kx s10 s11 wr => ∃ (i j : Nat), s10 = .int .i64 i ∧ s11 = .int .i64 j ∧ 1 ≤ i ∧ a + i ≤ m ∧ 1 ≤ j ∧ m + j ≤ b ∧ i + j ≤ kx ∧ Aside (SWP k w0 blk off d wr))
  case atStart => exact ⟨m - a, b - m, by congr 1; omega, by congr 1; omega, by omega, by omega, by omega, by omega, by omega, S0⟩
  case round =>
    clear S0
    obtain ⟨i, j, rfl, rfl, hi1, hi2, hj1, hj2, hkx, S1⟩ := hrel
    by_cases heq : i = j
    · subst heq
      go_wp2_with fail
      obtain ⟨dk, hd, HP, S2⟩ := S1.out
      refine (swapRange_c2 (a := m - i) (b := m) (n := i) aE zE (by omega) rfl rfl R hs hd HP S2 (by omega) (by omega) hsz).mono ?_
      rintro e w' ⟨rfl, S3⟩
      have S3' : Aside (SWP k w0 blk off d w') := S3
      clear S3 S2 HP hd
      go_wp2_with fail
      go_end0
      exact ⟨rfl, S3'.out⟩
    · have hne : ((i : Int) == (j : Int)) = false := beq_eq_false_iff_ne.2 (by omega)
      have hne2 : ((i : Int) != (j : Int)) = true := by simp; omega
      have hne3 : (i == j) = false := beq_eq_false_iff_ne.2 heq
      have hne4 : (i != j) = true := by simp; omega
      by_cases hlt : j < i
      · have hltz : (j : Int) < (i : Int) := by omega
        clear heq
        go_wp2_with fail
        obtain ⟨dk, hd, HP, S2⟩ := S1.out
        refine (swapRange_c2 (a := m - i) (b := m) (n := j) aE zE (by omega) rfl rfl R hs hd HP S2 (by omega) (by omega) hsz).mono ?_
        rintro e w' ⟨rfl, S3⟩
        have S3' : Aside (SWP k w0 blk off d w') := S3
        clear S3 S2 HP hd
        go_wp2_with fail
        go_roundg (i - j + j)
        case measure => omega
        case rel => exact ⟨i - j, j, by congr 1; omega, rfl, by omega, by omega, by omega, by omega, by omega, S3'⟩
      · have hltz : ¬ (j : Int) < (i : Int) := by omega
        have hlt2 : (i : Int) < j := by omega
        clear heq
        go_wp2_with fail
        obtain ⟨dk, hd, HP, S2⟩ := S1.out
        refine (swapRange_c2 (a := m - i) (b := m + j - i) (n := i) aE zE (by omega) (by omega) rfl R hs hd HP S2 (by omega) (by omega) hsz).mono ?_
        rintro e w' ⟨rfl, S3⟩
        have S3' : Aside (SWP k w0 blk off d w') := S3
        clear S3 S2 HP hd
        go_wp2_with fail
        go_roundg (i + (j - i))
        case measure => omega
        case rel => exact ⟨i, j - i, rfl, by congr 1; omega, by omega, by omega, by omega, by omega, by omega, S3'⟩

set_option maxHeartbeats 8000000 in
set_option maxRecDepth 1000000 in
theorem symMerge_first {k : Nat} (aE : ∀ w, (isAgg 48).run Tryd.prog w = .ok true w) (zE : ∀ w, (Go.sizeOf 48).run Tryd.prog w = .ok k w) {w0 w : World} {blk off cap a m b : Nat} {d0 d : Array Prp} (R : RowK Prp.cells k w0 blk off d0) (hs : d0.size = d.size) (S : SWP k w0 blk off d w) (ham : a < m) (hmb : m < b) (hb : b ≤ d.size) (hsz : d.size < 4611686018427387904) (h1 : m = a + 1) :
    Calls Tryd.prog 85 #[.slice (some ⟨blk, off, none⟩) d.size cap, .int .i64 a, .int .i64 m, .int .i64 b, .func (.func 62) #[] #[]] w fun e w' => e = .returned (.tuple #[]) ∧ SWP k w0 blk off d w' := by
  have mixed : Tryd.prog.follows .mixedOrders = true := by kernel_rfl
  have S0 : Aside (SWP k w0 blk off d w) := S
  have hmz : (m : Int) ≤ 4611686018427387904 := by omega
  have hbz : (b : Int) ≤ 4611686018427387904 := by omega
  have ham1 : (a : Int) < m := by omega
  have hmb1 : (m : Int) < b := by omega
  clear S
  have hone : ((m : Int) - a == 1) = true := beq_iff_eq.2 (by omega)
  have h1p : m ≤ a + 1 := by omega
  clear h1
  go_enter Tryd.func85, Tryd.ntmps85
  go_wp2_with fail
  go_loopg [10, 11] (b - a) (fun kx s10 s11 wr => ∃ (i j : Nat), s10 = .int .i64 i ∧ s11 = .int .i64 j ∧ m ≤ i ∧ i ≤ j ∧ j ≤ b ∧ j - i ≤ kx ∧ Aside (SWP k w0 blk off d wr))
  case atStart => exact ⟨m, b, rfl, rfl, Nat.le_refl _, by omega, Nat.le_refl _, by omega, S0⟩
  case round =>
    clear S0
    obtain ⟨i, j, rfl, rfl, hi1, hi2, hj2, hkx, S0⟩ := hrel
    obtain ⟨dk, hds, HP', S1'⟩ := S0.out
    have HP : Aside (PermIn 0 d.size d dk) := HP'
    have S1 : Aside (SWK Prp.cells k w0 blk off dk wr) := S1'
    clear HP' S1' S0
    by_cases hlt : i < j
    · have hltz : (i : Int) < (j : Int) := by omega
      have hiz : (i : Int) ≤ 4611686018427387904 := by omega
      have hjz : (j : Int) ≤ 4611686018427387904 := by omega
      go_wp2_with fail
      obtain ⟨h, hh⟩ : ∃ h : Nat, h = (i + j) / 2 := ⟨_, rfl⟩
      rw [show ((i : Int) + (j : Int)) / 2 = (h : Int) by omega]
      have hh1 : i ≤ h := by omega
      have hh2 : h < j := by omega
      clear hh
      have ei : ((h : Int)).toNat = h := by omega
      have pi : (0 : Int) ≤ (h : Int) := by omega
      have bi : (h : Int) < (d.size : Int) := by omega
      have ri : IntKind.i64.wrap ((h : Int)) = (h : Int) := by rw [IntKind.wrap_i64]; omega
      have ej : ((a : Int)).toNat = a := by omega
      have pj : (0 : Int) ≤ (a : Int) := by omega
      have bj : (a : Int) < (d.size : Int) := by omega
      have rj : IntKind.i64.wrap ((a : Int)) = (a : Int) := by rw [IntKind.wrap_i64]; omega
      obtain ⟨x, hx⟩ : ∃ x, x = dk[h]! := ⟨_, rfl⟩
      obtain ⟨y, hy⟩ : ∃ x, x = dk[a]! := ⟨_, rfl⟩
      have l1 := S1.out.ld R (by omega) Tryd.prog (h) (by omega)
      have l2 := S1.out.ld R (by omega) Tryd.prog (a) (by omega)
      rw [← hx] at l1
      rw [← hy] at l2
      have hc := S1.out.cmp (cmpLays k blk off d.size w0) hds x y
      clear hx hy
      by_cases hv : cfP x y < 0
      · have hd : decide (cfP x y < 0) = true := decide_eq_true hv
        go_wp2_with fail
        go_quiet_grown (first | (go_at_call 62; refine Calls.grown_of (hc _ _)))
        have S2 : Aside (SWK Prp.cells k w0 blk off dk (grow (wr.drewN nq) osq)) := S1.out.grown nq osq
        clear l1 l2 hc S1
        generalize grow (wr.drewN nq) osq = w2 at S2 ⊢
        clear nq osq
        go_wp2
        go_roundg (j - (h + 1))
        case measure => omega
        case rel => exact ⟨h + 1, j, by go_num, rfl, by omega, by omega, hj2, Nat.le_refl _, ⟨dk, hds, HP.out, S2.out⟩⟩
      · have hd : decide (cfP x y < 0) = false := decide_eq_false hv
        go_wp2_with fail
        go_quiet_grown (first | (go_at_call 62; refine Calls.grown_of (hc _ _)))
        have S2 : Aside (SWK Prp.cells k w0 blk off dk (grow (wr.drewN nq) osq)) := S1.out.grown nq osq
        clear l1 l2 hc S1
        generalize grow (wr.drewN nq) osq = w2 at S2 ⊢
        clear nq osq
        go_wp2
        go_roundg (h - i)
        case measure => omega
        case rel => exact ⟨i, h, rfl, rfl, hi1, by omega, by omega, Nat.le_refl _, ⟨dk, hds, HP.out, S2.out⟩⟩
    · have hltz : ¬ (i : Int) < (j : Int) := by omega
      have hiz : (i : Int) ≤ 4611686018427387904 := by omega
      have hi0 : (1 : Int) ≤ i := by omega
      go_wp2_with fail
      go_loopg [13] (b - a) (fun kx s13 wr => ∃ (q : Nat) (dk : Array Prp), s13 = .int .i64 q ∧ a ≤ q ∧ q ≤ i - 1 ∧ i - q ≤ kx + 1 ∧ dk.size = d.size ∧ Aside (PermIn 0 d.size d dk) ∧ Aside (SWK Prp.cells k w0 blk off dk wr))
      case atStart => exact ⟨a, dk, rfl, Nat.le_refl _, by omega, by omega, hds, HP, S1⟩
      case round =>
        clear HP S1 hds dk
        obtain ⟨q, dk, rfl, hq1, hq2, hkx2, hds, HP, S1⟩ := hrel
        by_cases hlt2 : q < i - 1
        · have hltz2 : (q : Int) < (i : Int) - 1 := by omega
          have hltz3 : (q : Int) + 1 < (i : Int) := by omega
          have ei : ((q : Int)).toNat = q := by omega
          have pi : (0 : Int) ≤ (q : Int) := by omega
          have bi : (q : Int) < (d.size : Int) := by omega
          have ri : IntKind.i64.wrap ((q : Int)) = (q : Int) := by rw [IntKind.wrap_i64]; omega
          have ej : ((q : Int) + 1).toNat = q + 1 := by omega
          have pj : (0 : Int) ≤ (q : Int) + 1 := by omega
          have bj : (q : Int) + 1 < (d.size : Int) := by omega
          have rj : IntKind.i64.wrap ((q : Int) + 1) = (q : Int) + 1 := by rw [IntKind.wrap_i64]; omega
          have S2 : Aside (SWK Prp.cells k w0 blk off (swp dk (q) (q + 1)) ((wr.drew.setCells blk (off + (q) * k) (Prp.cells dk[q + 1]!)).setCells blk (off + (q + 1) * k) (Prp.cells dk[q]!))) := S1.out.swapped R (q) (q + 1) (by omega) (by omega)
          have l1 := S1.out.ld1 R (by omega) Tryd.prog (q) (by omega)
          have l2 := S1.out.ld1 R (by omega) Tryd.prog (q + 1) (by omega)
          have s1 := S1.out.st1 R (by omega) Tryd.prog (q) (by omega) dk[q + 1]!
          have s2 := S1.out.st2 R (by omega) Tryd.prog (q) (q + 1) (by omega) (by omega) dk[q + 1]! dk[q]!
          have n1 : (Prp.cells dk[q]!).length = k := R.hk _
          have n2 : (Prp.cells dk[q + 1]!).length = k := R.hk _
          generalize Prp.cells dk[q]! = cI at S2 l1 s2 n1
          generalize Prp.cells dk[q + 1]! = cJ at S2 l2 s1 s2 n2
          clear S1
          go_wp2_with fail
          go_big_region_o
          clear l1 l2 s1 s2
          generalize (wr.drew.setCells blk (off + (q) * k) cJ).setCells blk (off + (q + 1) * k) cI = w2 at S2 ⊢
          go_wp2
          go_roundg (i - (q + 1) - 1)
          case measure => omega
          case rel => exact ⟨q + 1, swp dk q (q + 1), by go_num, by omega, by omega, by omega, by rw [size_swp]; exact hds, permIn_trans d dk _ 0 d.size HP.out (by rw [← hds]; exact swp_permIn dk 0 dk.size (q) (q + 1) (Nat.zero_le _) (by omega) (Nat.zero_le _) (by omega) (Nat.le_refl _)), S2⟩
        · have hltz2 : ¬ (q : Int) < (i : Int) - 1 := by omega
          have hltz3 : ¬ (q : Int) + 1 < (i : Int) := by omega
          go_wp2
          first | go_end0 | refine bodyPost_ret (results_none rfl _ _ _) rfl ?_
          exact ⟨rfl, dk, hds, HP.out, S1.out⟩
end Go.Proofs.YteigbejidfkhpaaDoor

/- Stable sorting of properties by their names: the merge, going on. -/
namespace Go.Proofs.YteigbejidfkhpaaDoor
open Go Go.Proofs Go.RowKit Go.Lib Go.Sort Go.Shelf
set_option linter.unusedSimpArgs false
set_option linter.unusedVariables false

set_option maxHeartbeats 8000000 in
set_option maxRecDepth 1000000 in
theorem symMerge_last {k : Nat} (aE : ∀ w, (isAgg 48).run Tryd.prog w = .ok true w) (zE : ∀ w, (Go.sizeOf 48).run Tryd.prog w = .ok k w) {w0 w : World} {blk off cap a m b : Nat} {d0 d : Array Prp} (R : RowK Prp.cells k w0 blk off d0) (hs : d0.size = d.size) (S : SWP k w0 blk off d w) (ham : a < m) (hmb : m < b) (hb : b ≤ d.size) (hsz : d.size < 4611686018427387904) (h0 : ¬ m = a + 1) (h1 : b = m + 1) :
    Calls Tryd.prog 85 #[.slice (some ⟨blk, off, none⟩) d.size cap, .int .i64 a, .int .i64 m, .int .i64 b, .func (.func 62) #[] #[]] w fun e w' => e = .returned (.tuple #[]) ∧ SWP k w0 blk off d w' := by
  have mixed : Tryd.prog.follows .mixedOrders = true := by kernel_rfl
  have S0 : Aside (SWP k w0 blk off d w) := S
  have hmz : (m : Int) ≤ 4611686018427387904 := by omega
  have hbz : (b : Int) ≤ 4611686018427387904 := by omega
  have ham1 : (a : Int) < m := by omega
  have hmb1 : (m : Int) < b := by omega
  clear S
  have hnone : ((m : Int) - a == 1) = false := beq_eq_false_iff_ne.2 (by omega)
  have hone : ((b : Int) - m == 1) = true := beq_iff_eq.2 (by omega)
  have h1p : b ≤ m + 1 := by omega
  clear h1 h0
  go_enter Tryd.func85, Tryd.ntmps85
  go_wp2_with fail
  go_loopg [14, 15] (b - a) (fun kx s10 s11 wr => ∃ (i j : Nat), s10 = .int .i64 i ∧ s11 = .int .i64 j ∧ a ≤ i ∧ i ≤ j ∧ j ≤ m ∧ j - i ≤ kx ∧ Aside (SWP k w0 blk off d wr))
  case atStart => exact ⟨a, m, rfl, rfl, Nat.le_refl _, by omega, Nat.le_refl _, by omega, S0⟩
  case round =>
    clear S0
    obtain ⟨i, j, rfl, rfl, hi1, hi2, hj2, hkx, S0⟩ := hrel
    obtain ⟨dk, hds, HP', S1'⟩ := S0.out
    have HP : Aside (PermIn 0 d.size d dk) := HP'
    have S1 : Aside (SWK Prp.cells k w0 blk off dk wr) := S1'
    clear HP' S1' S0
    by_cases hlt : i < j
    · have hltz : (i : Int) < (j : Int) := by omega
      have hiz : (i : Int) ≤ 4611686018427387904 := by omega
      have hjz : (j : Int) ≤ 4611686018427387904 := by omega
      go_wp2_with fail
      obtain ⟨h, hh⟩ : ∃ h : Nat, h = (i + j) / 2 := ⟨_, rfl⟩
      rw [show ((i : Int) + (j : Int)) / 2 = (h : Int) by omega]
      have hh1 : i ≤ h := by omega
      have hh2 : h < j := by omega
      clear hh
      have ei : ((m : Int)).toNat = m := by omega
      have pi : (0 : Int) ≤ (m : Int) := by omega
      have bi : (m : Int) < (d.size : Int) := by omega
      have ri : IntKind.i64.wrap ((m : Int)) = (m : Int) := by rw [IntKind.wrap_i64]; omega
      have ej : ((h : Int)).toNat = h := by omega
      have pj : (0 : Int) ≤ (h : Int) := by omega
      have bj : (h : Int) < (d.size : Int) := by omega
      have rj : IntKind.i64.wrap ((h : Int)) = (h : Int) := by rw [IntKind.wrap_i64]; omega
      obtain ⟨x, hx⟩ : ∃ x, x = dk[m]! := ⟨_, rfl⟩
      obtain ⟨y, hy⟩ : ∃ x, x = dk[h]! := ⟨_, rfl⟩
      have l1 := S1.out.ld R (by omega) Tryd.prog (m) (by omega)
      have l2 := S1.out.ld R (by omega) Tryd.prog (h) (by omega)
      rw [← hx] at l1
      rw [← hy] at l2
      have hc := S1.out.cmp (cmpLays k blk off d.size w0) hds x y
      clear hx hy
      by_cases hv : cfP x y < 0
      · have hd : decide (cfP x y < 0) = true := decide_eq_true hv
        go_wp2_with fail
        go_quiet_grown (first | (go_at_call 62; refine Calls.grown_of (hc _ _)))
        have S2 : Aside (SWK Prp.cells k w0 blk off dk (grow (wr.drewN nq) osq)) := S1.out.grown nq osq
        clear l1 l2 hc S1
        generalize grow (wr.drewN nq) osq = w2 at S2 ⊢
        clear nq osq
        go_wp2
        go_roundg (h - i)
        case measure => omega
        case rel => exact ⟨i, h, rfl, rfl, hi1, by omega, by omega, Nat.le_refl _, ⟨dk, hds, HP.out, S2.out⟩⟩
      · have hd : decide (cfP x y < 0) = false := decide_eq_false hv
        go_wp2_with fail
        go_quiet_grown (first | (go_at_call 62; refine Calls.grown_of (hc _ _)))
        have S2 : Aside (SWK Prp.cells k w0 blk off dk (grow (wr.drewN nq) osq)) := S1.out.grown nq osq
        clear l1 l2 hc S1
        generalize grow (wr.drewN nq) osq = w2 at S2 ⊢
        clear nq osq
        go_wp2
        go_roundg (j - (h + 1))
        case measure => omega
        case rel => exact ⟨h + 1, j, by go_num, rfl, by omega, by omega, hj2, Nat.le_refl _, ⟨dk, hds, HP.out, S2.out⟩⟩
    · have hltz : ¬ (i : Int) < (j : Int) := by omega
      have hiz : (i : Int) ≤ 4611686018427387904 := by omega
      have hi0 : (0 : Int) ≤ i := by omega
      go_wp2_with fail
      go_loopg [17] (b - a) (fun kx s13 wr => ∃ (q : Nat) (dk : Array Prp), s13 = .int .i64 q ∧ i ≤ q ∧ q ≤ m ∧ q - i ≤ kx ∧ dk.size = d.size ∧ Aside (PermIn 0 d.size d dk) ∧ Aside (SWK Prp.cells k w0 blk off dk wr))
      case atStart => exact ⟨m, dk, rfl, by omega, Nat.le_refl _, by omega, hds, HP, S1⟩
      case round =>
        clear HP S1 hds dk
        obtain ⟨q, dk, rfl, hq1, hq2, hkx2, hds, HP, S1⟩ := hrel
        by_cases hlt2 : i < q
        · have hltz2 : (i : Int) < (q : Int) := by omega
          obtain ⟨p, rfl⟩ : ∃ p, q = p + 1 := ⟨q - 1, by omega⟩
          have hltz3 : (i : Int) < (p : Int) + 1 := by omega
          have hwp : IntKind.i64.wrap (p : Int) = (p : Int) := by rw [IntKind.wrap_i64]; omega
          have ei : ((p : Int) + 1).toNat = p + 1 := by omega
          have pi : (0 : Int) ≤ (p : Int) + 1 := by omega
          have bi : (p : Int) + 1 < (d.size : Int) := by omega
          have ri : IntKind.i64.wrap ((p : Int) + 1) = (p : Int) + 1 := by rw [IntKind.wrap_i64]; omega
          have ej : ((p : Int)).toNat = p := by omega
          have pj : (0 : Int) ≤ (p : Int) := by omega
          have bj : (p : Int) < (d.size : Int) := by omega
          have rj : IntKind.i64.wrap ((p : Int)) = (p : Int) := by rw [IntKind.wrap_i64]; omega
          have S2 : Aside (SWK Prp.cells k w0 blk off (swp dk (p + 1) (p)) ((wr.drew.setCells blk (off + (p + 1) * k) (Prp.cells dk[p]!)).setCells blk (off + (p) * k) (Prp.cells dk[p + 1]!))) := S1.out.swapped R (p + 1) (p) (by omega) (by omega)
          have l1 := S1.out.ld1 R (by omega) Tryd.prog (p + 1) (by omega)
          have l2 := S1.out.ld1 R (by omega) Tryd.prog (p) (by omega)
          have s1 := S1.out.st1 R (by omega) Tryd.prog (p + 1) (by omega) dk[p]!
          have s2 := S1.out.st2 R (by omega) Tryd.prog (p + 1) (p) (by omega) (by omega) dk[p]! dk[p + 1]!
          have n1 : (Prp.cells dk[p + 1]!).length = k := R.hk _
          have n2 : (Prp.cells dk[p]!).length = k := R.hk _
          generalize Prp.cells dk[p + 1]! = cI at S2 l1 s2 n1
          generalize Prp.cells dk[p]! = cJ at S2 l2 s1 s2 n2
          clear S1
          go_wp2_with fail
          go_big_region_o
          clear l1 l2 s1 s2
          generalize (wr.drew.setCells blk (off + (p + 1) * k) cJ).setCells blk (off + (p) * k) cI = w2 at S2 ⊢
          go_wp2
          go_roundg (p - i)
          case measure => omega
          case rel => exact ⟨p, swp dk (p + 1) p, by go_num, by omega, by omega, by omega, by rw [size_swp]; exact hds, permIn_trans d dk _ 0 d.size HP.out (by rw [← hds]; exact swp_permIn dk 0 dk.size (p + 1) (p) (Nat.zero_le _) (by omega) (Nat.zero_le _) (by omega) (Nat.le_refl _)), S2⟩
        · have hltz2 : ¬ (i : Int) < (q : Int) := by omega
          go_wp2
          first | go_end0 | refine bodyPost_ret (results_none rfl _ _ _) rfl ?_
          exact ⟨rfl, dk, hds, HP.out, S1.out⟩
end Go.Proofs.YteigbejidfkhpaaDoor

/- Stable sorting of properties by their names: the merge, whole. -/
namespace Go.Proofs.YteigbejidfkhpaaDoor
open Go Go.Proofs Go.RowKit Go.Lib Go.Sort Go.Shelf
set_option linter.unusedSimpArgs false
set_option linter.unusedVariables false

set_option maxHeartbeats 8000000 in
set_option maxRecDepth 1000000 in
theorem symMerge_gen {k : Nat} (aE : ∀ w, (isAgg 48).run Tryd.prog w = .ok true w) (zE : ∀ w, (Go.sizeOf 48).run Tryd.prog w = .ok k w) {w0 w : World} {blk off cap a m b : Nat} {d0 d : Array Prp} (R : RowK Prp.cells k w0 blk off d0) (hs : d0.size = d.size) (S : SWP k w0 blk off d w) (ham : a < m) (hmb : m < b) (hb : b ≤ d.size) (hsz : d.size < 4611686018427387904) (h0 : ¬ m = a + 1) (h1 : ¬ b = m + 1) (ih : ∀ (a' m' b' : Nat) (w' : World), b' - a' < b - a → a' < m' → m' < b' → b' ≤ d.size → SWP k w0 blk off d w' → Calls Tryd.prog 85 #[.slice (some ⟨blk, off, none⟩) d.size cap, .int .i64 a', .int .i64 m', .int .i64 b', .func (.func 62) #[] #[]] w' fun e w'' => e = .returned (.tuple #[]) ∧ SWP k w0 blk off d w'') :
    Calls Tryd.prog 85 #[.slice (some ⟨blk, off, none⟩) d.size cap, .int .i64 a, .int .i64 m, .int .i64 b, .func (.func 62) #[] #[]] w fun e w' => e = .returned (.tuple #[]) ∧ SWP k w0 blk off d w' := by
  have mixed : Tryd.prog.follows .mixedOrders = true := by kernel_rfl
  have S0 : Aside (SWP k w0 blk off d w) := S
  have hmz : (m : Int) ≤ 4611686018427387904 := by omega
  have hbz : (b : Int) ≤ 4611686018427387904 := by omega
  have ham1 : (a : Int) < m := by omega
  have hmb1 : (m : Int) < b := by omega
  clear S
  have hn1 : ((m : Int) - a == 1) = false := beq_eq_false_iff_ne.2 (by omega)
  have hn2 : ((b : Int) - m == 1) = false := beq_eq_false_iff_ne.2 (by omega)
  have IH := Lib.hid ih
  have haz : (0 : Int) ≤ a := by omega
  have h0' : a + 2 ≤ m := by omega
  have h1' : m + 2 ≤ b := by omega
  clear ih h0 h1
  go_enter Tryd.func85, Tryd.ntmps85
  go_upto_region 25 with fail
  obtain ⟨md, hmd⟩ : ∃ h : Nat, h = (a + b) / 2 := ⟨_, rfl⟩
  rw [show ((a : Int) + (b : Int)) / 2 = (md : Int) by omega]
  have hmd1 : 2 * md ≤ a + b := by omega
  have hmd2 : a + b ≤ 2 * md + 1 := by omega
  have hmdz : (md : Int) ≤ 4611686018427387904 := by omega
  have hmd0 : (0 : Int) ≤ md := by omega
  clear hmd
  by_cases hmm : md < m
  · have hmz2 : (md : Int) < m := by omega
    have hstz : (md : Int) + m - b = ((md + m - b : Nat) : Int) := by omega
    go_wp2_with fail
    clear hstz hmz2
    go_loopg [20, 21] (b - a) (fun kx s20 s21 wr => ∃ (s t : Nat), s20 = .int .i64 s ∧ s21 = .int .i64 t ∧ a ≤ s ∧ s ≤ t ∧ t ≤ md ∧ t ≤ m ∧ md + m ≤ b + s ∧ t - s ≤ kx ∧ Aside (SWP k w0 blk off d wr))
    case atStart => exact ⟨md + m - b, md, rfl, rfl, by omega, by omega, by omega, by omega, by omega, by omega, S0⟩
    case round =>
      clear S0
      obtain ⟨i, j, rfl, rfl, hi1, hi2, hj1, hj2, hj3, hkx, S0⟩ := hrel
      by_cases hlt : i < j
      · obtain ⟨dk, hds, HP', S1'⟩ := S0.out
        have HP : Aside (PermIn 0 d.size d dk) := HP'
        have S1 : Aside (SWK Prp.cells k w0 blk off dk wr) := S1'
        clear HP' S1' S0
        have hltz : (i : Int) < (j : Int) := by omega
        have hiz : (i : Int) ≤ 4611686018427387904 := by omega
        have hjz : (j : Int) ≤ 4611686018427387904 := by omega
        go_wp2_with fail
        obtain ⟨h, hh⟩ : ∃ h : Nat, h = (i + j) / 2 := ⟨_, rfl⟩
        rw [show ((i : Int) + (j : Int)) / 2 = (h : Int) by omega]
        have hh1 : i ≤ h := by omega
        have hh2 : h < j := by omega
        clear hh
        obtain ⟨q, hq⟩ : ∃ q : Nat, q = md + m - 1 - h := ⟨_, rfl⟩
        have hqz : (md : Int) + m - 1 - h = (q : Int) := by omega
        have hq1 : q + 1 + h ≤ md + m := by omega
        have hq2 : md + m ≤ q + 1 + h := by omega
        clear hq
        have hqw : IntKind.i64.wrap ((md : Int) + m - 1 - h) = (q : Int) := by rw [IntKind.wrap_i64]; omega
        have ei : ((q : Int)).toNat = q := by omega
        have pi : (0 : Int) ≤ (q : Int) := by omega
        have bi : (q : Int) < (d.size : Int) := by omega
        have ri : IntKind.i64.wrap ((q : Int)) = (q : Int) := by rw [IntKind.wrap_i64]; omega
        have ej : ((h : Int)).toNat = h := by omega
        have pj : (0 : Int) ≤ (h : Int) := by omega
        have bj : (h : Int) < (d.size : Int) := by omega
        have rj : IntKind.i64.wrap ((h : Int)) = (h : Int) := by rw [IntKind.wrap_i64]; omega
        obtain ⟨x, hx⟩ : ∃ x, x = dk[q]! := ⟨_, rfl⟩
        obtain ⟨y, hy⟩ : ∃ x, x = dk[h]! := ⟨_, rfl⟩
        have l1 := S1.out.ld R (by omega) Tryd.prog (q) (by omega)
        have l2 := S1.out.ld R (by omega) Tryd.prog (h) (by omega)
        rw [← hx] at l1
        rw [← hy] at l2
        have hc := S1.out.cmp (cmpLays k blk off d.size w0) hds x y
        clear hx hy
        by_cases hv : cfP x y < 0
        · have hd : decide (cfP x y < 0) = true := decide_eq_true hv
          go_wp2_with fail
          go_quiet_grown (first | (go_at_call 62; refine Calls.grown_of (hc _ _)))
          have S2 : Aside (SWK Prp.cells k w0 blk off dk (grow (wr.drewN nq) osq)) := S1.out.grown nq osq
          clear l1 l2 hc S1
          generalize grow (wr.drewN nq) osq = w2 at S2 ⊢
          clear nq osq
          clear hqz hqw
          go_wp2
          go_roundg (h - i)
          case measure => omega
          case rel => exact ⟨i, h, rfl, rfl, hi1, by omega, by omega, by omega, by omega, Nat.le_refl _, ⟨dk, hds, HP.out, S2.out⟩⟩
        · have hd : decide (cfP x y < 0) = false := decide_eq_false hv
          go_wp2_with fail
          go_quiet_grown (first | (go_at_call 62; refine Calls.grown_of (hc _ _)))
          have S2 : Aside (SWK Prp.cells k w0 blk off dk (grow (wr.drewN nq) osq)) := S1.out.grown nq osq
          clear l1 l2 hc S1
          generalize grow (wr.drewN nq) osq = w2 at S2 ⊢
          clear nq osq
          clear hqz hqw
          go_wp2
          go_roundg (j - (h + 1))
          case measure => omega
          case rel => exact ⟨h + 1, j, by go_num, rfl, by omega, by omega, by omega, by omega, by omega, Nat.le_refl _, ⟨dk, hds, HP.out, S2.out⟩⟩
      · have hltz : ¬ (i : Int) < (j : Int) := by omega
        have hiz : (i : Int) ≤ 4611686018427387904 := by omega
        go_upto_region 39 with fail
        obtain ⟨en, hen⟩ : ∃ q : Nat, q = md + m - i := ⟨_, rfl⟩
        rw [show (md : Int) + m - i = (en : Int) by omega]
        have hen1 : en + i ≤ md + m := by omega
        have hen2 : md + m ≤ en + i := by omega
        clear hen hltz hlt
        go_wp2_with (first
          | (go_at_call 92; refine (rotate_c (a := i) (m := m) (b := en) aE zE rfl rfl rfl R hs S0.out (by omega) (by omega) (by omega) hsz).mono ?_; rintro e w' ⟨rfl, S3⟩; have S0 : Aside (SWP k w0 blk off d w') := S3; clear S3)
          | (go_at_call 85; ((with_reducible refine (IH.out a i md _ ?_ ?_ ?_ ?_ S0.out).mono ?_); (focus omega); (focus omega); (focus omega); (focus omega); rintro e w' ⟨rfl, S3⟩); have S0 : Aside (SWP k w0 blk off d w') := S3; clear S3)
          | (go_at_call 85; ((with_reducible refine (IH.out md en b _ ?_ ?_ ?_ ?_ S0.out).mono ?_); (focus omega); (focus omega); (focus omega); (focus omega); rintro e w' ⟨rfl, S3⟩); have S0 : Aside (SWP k w0 blk off d w') := S3; clear S3))
        all_goals
          first | go_end0 | refine bodyPost_ret (results_none rfl _ _ _) rfl ?_
          exact ⟨rfl, S0.out⟩
  · have hmz2 : ¬ (md : Int) < m := by omega
    go_wp2_with fail
    clear hmz2
    go_loopg [20, 21] (b - a) (fun kx s20 s21 wr => ∃ (s t : Nat), s20 = .int .i64 s ∧ s21 = .int .i64 t ∧ a ≤ s ∧ s ≤ t ∧ t ≤ md ∧ t ≤ m ∧ md + m ≤ b + s ∧ t - s ≤ kx ∧ Aside (SWP k w0 blk off d wr))
    case atStart => exact ⟨a, m, rfl, rfl, by omega, by omega, by omega, by omega, by omega, by omega, S0⟩
    case round =>
      clear S0
      obtain ⟨i, j, rfl, rfl, hi1, hi2, hj1, hj2, hj3, hkx, S0⟩ := hrel
      by_cases hlt : i < j
      · obtain ⟨dk, hds, HP', S1'⟩ := S0.out
        have HP : Aside (PermIn 0 d.size d dk) := HP'
        have S1 : Aside (SWK Prp.cells k w0 blk off dk wr) := S1'
        clear HP' S1' S0
        have hltz : (i : Int) < (j : Int) := by omega
        have hiz : (i : Int) ≤ 4611686018427387904 := by omega
        have hjz : (j : Int) ≤ 4611686018427387904 := by omega
        go_wp2_with fail
        obtain ⟨h, hh⟩ : ∃ h : Nat, h = (i + j) / 2 := ⟨_, rfl⟩
        rw [show ((i : Int) + (j : Int)) / 2 = (h : Int) by omega]
        have hh1 : i ≤ h := by omega
        have hh2 : h < j := by omega
        clear hh
        obtain ⟨q, hq⟩ : ∃ q : Nat, q = md + m - 1 - h := ⟨_, rfl⟩
        have hqz : (md : Int) + m - 1 - h = (q : Int) := by omega
        have hq1 : q + 1 + h ≤ md + m := by omega
        have hq2 : md + m ≤ q + 1 + h := by omega
        clear hq
        have hqw : IntKind.i64.wrap ((md : Int) + m - 1 - h) = (q : Int) := by rw [IntKind.wrap_i64]; omega
        have ei : ((q : Int)).toNat = q := by omega
        have pi : (0 : Int) ≤ (q : Int) := by omega
        have bi : (q : Int) < (d.size : Int) := by omega
        have ri : IntKind.i64.wrap ((q : Int)) = (q : Int) := by rw [IntKind.wrap_i64]; omega
        have ej : ((h : Int)).toNat = h := by omega
        have pj : (0 : Int) ≤ (h : Int) := by omega
        have bj : (h : Int) < (d.size : Int) := by omega
        have rj : IntKind.i64.wrap ((h : Int)) = (h : Int) := by rw [IntKind.wrap_i64]; omega
        obtain ⟨x, hx⟩ : ∃ x, x = dk[q]! := ⟨_, rfl⟩
        obtain ⟨y, hy⟩ : ∃ x, x = dk[h]! := ⟨_, rfl⟩
        have l1 := S1.out.ld R (by omega) Tryd.prog (q) (by omega)
        have l2 := S1.out.ld R (by omega) Tryd.prog (h) (by omega)
        rw [← hx] at l1
        rw [← hy] at l2
        have hc := S1.out.cmp (cmpLays k blk off d.size w0) hds x y
        clear hx hy
        by_cases hv : cfP x y < 0
        · have hd : decide (cfP x y < 0) = true := decide_eq_true hv
          go_wp2_with fail
          go_quiet_grown (first | (go_at_call 62; refine Calls.grown_of (hc _ _)))
          have S2 : Aside (SWK Prp.cells k w0 blk off dk (grow (wr.drewN nq) osq)) := S1.out.grown nq osq
          clear l1 l2 hc S1
          generalize grow (wr.drewN nq) osq = w2 at S2 ⊢
          clear nq osq
          clear hqz hqw
          go_wp2
          go_roundg (h - i)
          case measure => omega
          case rel => exact ⟨i, h, rfl, rfl, hi1, by omega, by omega, by omega, by omega, Nat.le_refl _, ⟨dk, hds, HP.out, S2.out⟩⟩
        · have hd : decide (cfP x y < 0) = false := decide_eq_false hv
          go_wp2_with fail
          go_quiet_grown (first | (go_at_call 62; refine Calls.grown_of (hc _ _)))
          have S2 : Aside (SWK Prp.cells k w0 blk off dk (grow (wr.drewN nq) osq)) := S1.out.grown nq osq
          clear l1 l2 hc S1
          generalize grow (wr.drewN nq) osq = w2 at S2 ⊢
          clear nq osq
          clear hqz hqw
          go_wp2
          go_roundg (j - (h + 1))
          case measure => omega
          case rel => exact ⟨h + 1, j, by go_num, rfl, by omega, by omega, by omega, by omega, by omega, Nat.le_refl _, ⟨dk, hds, HP.out, S2.out⟩⟩
      · have hltz : ¬ (i : Int) < (j : Int) := by omega
        have hiz : (i : Int) ≤ 4611686018427387904 := by omega
        go_upto_region 39 with fail
        obtain ⟨en, hen⟩ : ∃ q : Nat, q = md + m - i := ⟨_, rfl⟩
        rw [show (md : Int) + m - i = (en : Int) by omega]
        have hen1 : en + i ≤ md + m := by omega
        have hen2 : md + m ≤ en + i := by omega
        clear hen hltz hlt
        go_wp2_with (first
          | (go_at_call 92; refine (rotate_c (a := i) (m := m) (b := en) aE zE rfl rfl rfl R hs S0.out (by omega) (by omega) (by omega) hsz).mono ?_; rintro e w' ⟨rfl, S3⟩; have S0 : Aside (SWP k w0 blk off d w') := S3; clear S3)
          | (go_at_call 85; ((with_reducible refine (IH.out a i md _ ?_ ?_ ?_ ?_ S0.out).mono ?_); (focus omega); (focus omega); (focus omega); (focus omega); rintro e w' ⟨rfl, S3⟩); have S0 : Aside (SWP k w0 blk off d w') := S3; clear S3)
          | (go_at_call 85; ((with_reducible refine (IH.out md en b _ ?_ ?_ ?_ ?_ S0.out).mono ?_); (focus omega); (focus omega); (focus omega); (focus omega); rintro e w' ⟨rfl, S3⟩); have S0 : Aside (SWP k w0 blk off d w') := S3; clear S3))
        all_goals
          first | go_end0 | refine bodyPost_ret (results_none rfl _ _ _) rfl ?_
          exact ⟨rfl, S0.out⟩
end Go.Proofs.YteigbejidfkhpaaDoor

/- Stable sorting of properties by their names: the order; the whole. -/
namespace Go.Proofs.YteigbejidfkhpaaDoor
open Go Go.Proofs Go.RowKit Go.Lib Go.Sort Go.Shelf
set_option linter.unusedSimpArgs false
set_option linter.unusedVariables false

theorem cmpB_neg : ∀ (x y : List UInt8), Lib.compareBytes x y < 0 ↔ x < y
  | [], [] => by simp [Lib.compareBytes]
  | [], _ :: _ => by simp [Lib.compareBytes]
  | _ :: _, [] => by simp [Lib.compareBytes]
  | a :: l, b :: m => by
    unfold Lib.compareBytes
    rw [List.cons_lt_cons_iff, ← cmpB_neg l m]
    by_cases h1 : a < b
    · simp [h1]
    · rw [if_neg h1]
      by_cases h2 : b < a
      · rw [if_pos h2]
        have : ¬ a = b := fun e => by subst e; exact h1 h2
        simp [h1, this]
      · rw [if_neg h2]
        have h3 : a = b := by
          apply UInt8.toNat_inj.1
          rw [UInt8.lt_iff_toNat_lt] at h1 h2
          omega
        simp [h1, h3]
theorem ltP_iff (x y : Prp) : ltOf cfP x y = true ↔ x.nm.data.toList < y.nm.data.toList := by
  unfold ltOf cfP
  rw [decide_eq_true_eq, cmpB_neg]
theorem ltP_no (x y : Prp) : ltOf cfP x y = false ↔ ¬ x.nm.data.toList < y.nm.data.toList := by
  rw [← ltP_iff, Bool.not_eq_true]
theorem ltP_swo : SWO (ltOf cfP) where
  irrefl x := by rw [ltP_no]; exact List.lt_irrefl _
  trans x y z h1 h2 := by
    rw [ltP_iff] at h1 h2 ⊢
    exact List.lt_trans h1 h2
  ntrans x y z h1 h2 := by
    rw [ltP_no] at h1 h2 ⊢
    rw [List.not_lt] at h1 h2 ⊢
    exact List.le_trans h2 h1

theorem symMerge_c {k : Nat} (aE : ∀ w, (isAgg 48).run Tryd.prog w = .ok true w) (zE : ∀ w, (Go.sizeOf 48).run Tryd.prog w = .ok k w) {w0 : World} {blk off cap : Nat} {d0 d : Array Prp} (R : RowK Prp.cells k w0 blk off d0) (hs : d0.size = d.size) (hsz : d.size < 4611686018427387904) :
    ∀ (N a m b : Nat) (w : World), b - a < N → a < m → m < b → b ≤ d.size → SWP k w0 blk off d w →
      Calls Tryd.prog 85 #[.slice (some ⟨blk, off, none⟩) d.size cap, .int .i64 a, .int .i64 m, .int .i64 b, .func (.func 62) #[] #[]] w fun e w' => e = .returned (.tuple #[]) ∧ SWP k w0 blk off d w'
  | 0, _, _, _, _, h, _, _, _, _ => absurd h (Nat.not_lt_zero _)
  | N + 1, a, m, b, w, h, h1, h2, h3, S => by
    by_cases c1 : m = a + 1
    · exact symMerge_first aE zE R hs S h1 h2 h3 hsz c1
    · by_cases c2 : b = m + 1
      · exact symMerge_last aE zE R hs S h1 h2 h3 hsz c1 c2
      · exact symMerge_gen aE zE R hs S h1 h2 h3 hsz c1 c2 (fun a' m' b' w' g0 g1 g2 g3 S' => symMerge_c aE zE R hs hsz N a' m' b' w' (by omega) g1 g2 g3 S')

def renI : Go.Shelf.Ren := ⟨fun | 20 => 84 | n => n, fun | 0 => 0 | 3 => 3 | 4 => 4 | 22 => 24 | 24 => 48 | 25 => 91 | n => n, fun n => n⟩
theorem laysI : SlLaysF0.n20 Tryd.prog renI := {
  mixed := by kernel_rfl
  f20 := ⟨Tryd.f84.name, by decide, Tryd.func84.trans (congrArg some (by kernel_rfl))⟩
  t0 := Tryd.underlying0
  a0 := Tryd.isAgg0
  z0 := Tryd.sizeOf0
  v0 := Tryd.zeroValue0
  t3 := Tryd.underlying3
  a3 := Tryd.isAgg3
  z3 := Tryd.sizeOf3
  v3 := Tryd.zeroValue3
  t4 := Tryd.underlying4
  a4 := Tryd.isAgg4
  z4 := Tryd.sizeOf4
  v4 := Tryd.zeroValue4
  t22 := Tryd.underlying24
  a22 := Tryd.isAgg24
  z22 := Tryd.sizeOf24
  v22 := Tryd.zeroValue24
  t25 := Tryd.underlying91
  a25 := Tryd.isAgg91
  z25 := Tryd.sizeOf91
  v25 := Tryd.zeroValue91 }

theorem insertion_c {w0 w : World} {blk off cap a b : Nat} {d0 d : Array Prp} {ai bi : Int} (hai : ai = a) (hbi : bi = b) (R : RowK Prp.cells 5 w0 blk off d0) (hs : d0.size = d.size) (S : SWK Prp.cells 5 w0 blk off d w) (hab : a ≤ b) (hb : b ≤ d.size) (hsz : d.size < 4611686018427387904) :
    Calls Tryd.prog 84 #[.slice (some ⟨blk, off, none⟩) d.size cap, .int .i64 ai, .int .i64 bi, .func (.func 62) #[] #[]] w fun e w' => e = .returned (.tuple #[]) ∧ SWK Prp.cells 5 w0 blk off (Sort.insertionSort (ltOf cfP) d a b) w' := by
  subst hai hbi
  have hs' : (Sort.insertionSort (ltOf cfP) d a b).size = d.size := (insertionSort_holds ltP_swo d a b hab hb).1.1
  refine (AnyQ.insertionSortCmpFunc laysI 5 Tryd.isAgg48 Tryd.sizeOf48 Prp.cells R.hk R.h1 cfP 62 #[] blk off cap a b d w (fun args w => enters_of Tryd.func62 (by kernel_rfl) rfl args w) (cmpLays 5 blk off d.size w) (S.holds R.hblk R.hH hs.symm) (S.lt R.hblk) hab hb hsz).mono ?_
  rintro e w' ⟨rfl, n, os, rfl⟩
  exact ⟨rfl, S.on R.hblk n _ os hs'⟩
end Go.Proofs.YteigbejidfkhpaaDoor

/- Stable sorting of properties by their names: the whole. -/
namespace Go.Proofs.YteigbejidfkhpaaDoor
open Go Go.Proofs Go.RowKit Go.Lib Go.Sort Go.Shelf
set_option linter.unusedSimpArgs false
set_option linter.unusedVariables false

/-- What the sort leaves: a permutation; of fewer than 20, what the insertion sort makes. -/
def SoPost (w0 : World) (blk off : Nat) (d : Array Prp) (e : Ending) (w' : World) : Prop :=
  e = .returned (.tuple #[]) ∧ ∃ dk : Array Prp, dk.size = d.size ∧ PermIn 0 d.size d dk ∧ (d.size < 20 → dk = Sort.insertionSort (ltOf cfP) d 0 d.size) ∧ SWK Prp.cells 5 w0 blk off dk w'

theorem ins_swp {w0 W : World} {blk off a b : Nat} {d dk : Array Prp} (hd : dk.size = d.size) (HP : PermIn 0 d.size d dk) (hab : a ≤ b) (hb : b ≤ d.size) (S : SWK Prp.cells 5 w0 blk off (Sort.insertionSort (ltOf cfP) dk a b) W) : SWP 5 w0 blk off d W := by
  have h := (insertionSort_holds ltP_swo dk a b hab (by omega)).1
  have h1 := h.1
  refine ⟨_, by omega, permIn_trans d dk _ 0 d.size HP (permIn_mono dk _ a b 0 d.size (Nat.zero_le _) hb (by omega) h), S⟩

set_option maxHeartbeats 4000000 in
set_option maxRecDepth 1000000 in
theorem stable_small {w : World} {blk off cap : Nat} {d : Array Prp} (R : RowK Prp.cells 5 w blk off d) (hsm : d.size < 20) :
    Calls Tryd.prog 72 #[.slice (some ⟨blk, off, none⟩) d.size cap, .int .i64 d.size, .func (.func 62) #[] #[]] w (SoPost w blk off d) := by
  have hI := Lib.hid (insertion_c (w := w) (cap := cap) (a := 0) (b := d.size) (ai := 0) (bi := d.size) rfl rfl R rfl (SWK.start R.hH) (Nat.zero_le _) (Nat.le_refl _) (by omega))
  have h1 : ¬ (20 : Int) ≤ d.size := by omega
  have h2 : ¬ (20 : Int) < d.size := by omega
  have HS := Lib.hid hsm
  clear hsm
  go_enter Tryd.func72, Tryd.ntmps72
  go_wp2
  refine wp_loop_rounds 1 ?_
  rw [rounds_succ]
  go_wp2_with (go_at_call 84; refine (hI.out).mono ?_; rintro e w1 ⟨rfl, S1⟩)
  refine wp_loop_rounds 1 ?_
  rw [rounds_succ]
  go_wp2
  go_end0
  have h := (insertionSort_holds ltP_swo d 0 d.size (Nat.zero_le _) (Nat.le_refl _)).1
  exact ⟨rfl, _, h.1, h, fun _ => rfl, S1⟩

set_option maxHeartbeats 4000000 in
set_option maxRecDepth 1000000 in
theorem stable_big {w : World} {blk off cap : Nat} {d : Array Prp} (R : RowK Prp.cells 5 w blk off d) (hsm : 20 ≤ d.size) (hsz : d.size < 1152921504606846976) :
    Calls Tryd.prog 72 #[.slice (some ⟨blk, off, none⟩) d.size cap, .int .i64 d.size, .func (.func 62) #[] #[]] w (SoPost w blk off d) := by
  have S0 : Aside (SWP 5 w blk off d w) := SWP.refl (SWK.start R.hH)
  have SY := Lib.hid (fun a m b w' => symMerge_c (cap := cap) Tryd.isAgg48 Tryd.sizeOf48 R rfl (by omega) (b - a + 1) a m b w' (Nat.lt_succ_self _))
  have hz : (d.size : Int) ≤ 1152921504606846976 := by omega
  have hz2 : (20 : Int) ≤ d.size := by omega
  go_enter Tryd.func72, Tryd.ntmps72
  go_wp2
  go_loopg [7, 8] d.size (fun kx s7 s8 wr => ∃ a : Nat, s7 = .int .i64 a ∧ s8 = .int .i64 ((a : Int) + 20) ∧ a ≤ d.size ∧ d.size - a ≤ kx ∧ Aside (SWP 5 w blk off d wr))
  case atStart => exact ⟨0, rfl, rfl, Nat.zero_le _, Nat.le_refl _, S0⟩
  case round =>
    clear S0
    obtain ⟨a, rfl, rfl, ha, hkx, S0⟩ := hrel
    have ha0 : (0 : Int) ≤ a := by omega
    have ha1 : (a : Int) ≤ 1152921504606846976 := by omega
    by_cases hlt : a + 20 ≤ d.size
    · have hltz : (a : Int) + 20 ≤ (d.size : Int) := by omega
      go_wp2_with fail
      obtain ⟨dk, hd, HP, S1⟩ := S0.out
      have hI := insertion_c (w := wr) (cap := cap) (a := a) (b := a + 20) (ai := a) (bi := (a : Int) + 20) rfl (by omega) R hd.symm S1 (by omega) (by omega) (by omega)
      rw [hd] at hI
      refine hI.mono ?_
      rintro e w1 ⟨rfl, S2⟩
      have S3 : Aside (SWP 5 w blk off d w1) := ins_swp hd HP (by omega) hlt S2
      clear S2 hI S1 HP hd S0
      go_wp2
      go_roundg (d.size - (a + 20))
      case measure => omega
      case rel => exact ⟨a + 20, by go_num, by congr 1, hlt, Nat.le_refl _, S3⟩
    · have hltz : ¬ (a : Int) + 20 ≤ (d.size : Int) := by omega
      go_wp2_with fail
      obtain ⟨dk, hd, HP, S1⟩ := S0.out
      have hI := insertion_c (w := wr) (cap := cap) (a := a) (b := d.size) (ai := a) (bi := d.size) rfl rfl R hd.symm S1 ha (by omega) (by omega)
      rw [hd] at hI
      refine hI.mono ?_
      rintro e w1 ⟨rfl, S2⟩
      have S3 : Aside (SWP 5 w blk off d w1) := ins_swp hd HP ha (Nat.le_refl _) S2
      clear S2 hI S1 HP hd S0 hltz hlt ha0 ha1 hkx
      go_wp2_with fail
      go_loopg [6, 7, 8, 9] d.size (fun kx s6 _s7 _s8 _s9 wr => ∃ bs : Nat, s6 = .int .i64 bs ∧ 20 ≤ bs ∧ bs ≤ 2305843009213693952 ∧ d.size - bs ≤ kx ∧ Aside (SWP 5 w blk off d wr))
      case atStart => exact ⟨20, rfl, by omega, by omega, by omega, S3⟩
      case round =>
        clear S3
        obtain ⟨bs, rfl, hb1, hb2, hkx, S3⟩ := hrel
        have hb1z : (20 : Int) ≤ bs := by omega
        by_cases hlt : bs < d.size
        · have hltz : (bs : Int) < d.size := by omega
          have hbz : (bs : Int) ≤ 1152921504606846976 := by omega
          go_wp2_with fail
          go_loopg [7, 8] d.size (fun ky s7 s8 wr => ∃ a : Nat, s7 = .int .i64 a ∧ s8 = .int .i64 ((a : Int) + 2 * bs) ∧ a ≤ d.size ∧ d.size - a ≤ ky ∧ Aside (SWP 5 w blk off d wr))
          case atStart => exact ⟨0, rfl, by congr 1; omega, Nat.zero_le _, Nat.le_refl _, S3⟩
          case round =>
            clear S3
            obtain ⟨a, rfl, rfl, ha, hky, S0⟩ := hrel
            have ha0 : (0 : Int) ≤ a := by omega
            have ha1 : (a : Int) ≤ 1152921504606846976 := by omega
            by_cases hlt2 : a + 2 * bs ≤ d.size
            · have hltz2 : (a : Int) + 2 * bs ≤ (d.size : Int) := by omega
              go_wp2_with fail
              have hs := SY.out a (a + bs) (a + 2 * bs) _ (by omega) (by omega) hlt2 S0.out
              rw [show (((a + bs : Nat)) : Int) = (a : Int) + bs by omega, show (((a + 2 * bs : Nat)) : Int) = (a : Int) + 2 * bs by omega] at hs
              refine hs.mono ?_
              rintro e w2 ⟨rfl, S2⟩
              have S3 : Aside (SWP 5 w blk off d w2) := S2
              clear S2 S0 hs
              go_wp2
              go_roundg (d.size - (a + 2 * bs))
              case measure => omega
              case rel => exact ⟨a + 2 * bs, by congr 1, by congr 1, hlt2, Nat.le_refl _, S3⟩
            · have hltz2 : ¬ (a : Int) + 2 * bs ≤ (d.size : Int) := by omega
              by_cases hlt3 : a + bs < d.size
              · have hltz3 : (a : Int) + bs < (d.size : Int) := by omega
                go_wp2_with fail
                have hs := SY.out a (a + bs) d.size _ (by omega) hlt3 (Nat.le_refl _) S0.out
                rw [show (((a + bs : Nat)) : Int) = (a : Int) + bs by omega] at hs
                refine hs.mono ?_
                rintro e w2 ⟨rfl, S2⟩
                have S3 : Aside (SWP 5 w blk off d w2) := S2
                clear S2 S0 hs
                go_wp2
                go_roundg (d.size - 2 * bs)
                case measure => omega
                case rel => exact ⟨bs * 2, by congr 1, by omega, by omega, by omega, S3⟩
              · have hltz3 : ¬ (a : Int) + bs < (d.size : Int) := by omega
                go_wp2_with fail
                go_roundg (d.size - 2 * bs)
                case measure => omega
                case rel => exact ⟨bs * 2, by congr 1, by omega, by omega, by omega, S0⟩
        · have hltz : ¬ (bs : Int) < d.size := by omega
          go_wp2
          go_end0
          obtain ⟨dk, hd, HP, S1⟩ := S3.out
          exact ⟨rfl, dk, hd, HP, fun h => by omega, S1⟩

theorem stable_c {w : World} {blk off cap : Nat} {d : Array Prp} (R : RowK Prp.cells 5 w blk off d) (hsz : d.size < 1152921504606846976) :
    Calls Tryd.prog 72 #[.slice (some ⟨blk, off, none⟩) d.size cap, .int .i64 d.size, .func (.func 62) #[] #[]] w (SoPost w blk off d) := by
  by_cases h : d.size < 20
  · exact stable_small R h
  · exact stable_big R (by omega) hsz

set_option maxRecDepth 100000 in
theorem sortStable_c {w : World} {blk off cap : Nat} {d : Array Prp} (R : RowK Prp.cells 5 w blk off d) (hsz : d.size < 1152921504606846976) :
    Calls Tryd.prog 61 #[.slice (some ⟨blk, off, none⟩) d.size cap, .func (.func 62) #[] #[]] w (SoPost w blk off d) := by
  have hc := Lib.hid (stable_c (cap := cap) R hsz)
  go_enter Tryd.func61, Tryd.ntmps61
  go_wp2_with (go_at_call 72; refine (hc.out).mono ?_; rintro e w1 ⟨rfl, h1⟩)
  go_end0
  exact ⟨rfl, h1⟩

set_option maxRecDepth 100000 in
theorem insertion_nil {w : World} {fv : Value} : Calls Tryd.prog 84 #[.slice none 0 0, .int .i64 0, .int .i64 0, fv] w fun e w' => e = .returned (.tuple #[]) ∧ w = w' := by
  go_enter Tryd.func84, Tryd.ntmps84
  go_wp2
  refine wp_loop_rounds 1 ?_
  rw [rounds_succ]
  go_wp2
  go_end0
  exact ⟨rfl, rfl⟩
set_option maxRecDepth 100000 in
theorem stable_nil {w : World} {fv : Value} : Calls Tryd.prog 72 #[.slice none 0 0, .int .i64 0, fv] w fun e w' => e = .returned (.tuple #[]) ∧ w = w' := by
  have hI := Lib.hid (insertion_nil (w := w) (fv := fv))
  go_enter Tryd.func72, Tryd.ntmps72
  go_wp2
  refine wp_loop_rounds 1 ?_
  rw [rounds_succ]
  go_wp2_with (go_at_call 84; refine (hI.out).mono ?_; rintro e w1 ⟨rfl, rfl⟩)
  refine wp_loop_rounds 1 ?_
  rw [rounds_succ]
  go_wp2
  go_end0
  exact ⟨rfl, rfl⟩
set_option maxRecDepth 100000 in
theorem sortStable_nil {w : World} {fv : Value} :
    Calls Tryd.prog 61 #[.slice none 0 0, fv] w fun e w' => e = .returned (.tuple #[]) ∧ w = w' := by
  have hc := Lib.hid (stable_nil (w := w) (fv := fv))
  go_enter Tryd.func61, Tryd.ntmps61
  go_wp2_with (go_at_call 72; refine (hc.out).mono ?_; rintro e w1 ⟨rfl, rfl⟩)
  go_end0
  exact ⟨rfl, rfl⟩
end Go.Proofs.YteigbejidfkhpaaDoor

/- Layer 15: rows of properties that a call has made; a table's words. -/
namespace Go.Proofs.YteigbejidfkhpaaDoor
open Go Go.Proofs Go.RowKit Go.Sort Go.Shelf
set_option linter.unusedSimpArgs false
set_option linter.unusedVariables false

/-- v is a row of properties in a block of the call's own, from block B on. -/
def OwnP (w : World) (B : Nat) (v : Value) (ps : List Prp) : Prop :=
  (v = .slice none 0 0 ∧ ps = []) ∨ ∃ g cap, v = .slice (some ⟨g, 0, none⟩) ps.length cap ∧ B ≤ g ∧ g < w.heap.size ∧ ps.length ≤ cap ∧ cap ≤ 9223372036854775807 ∧ HoldsK Prp.cells 5 w g 0 ps.toArray

theorem cells_len (p : Prp) : (Prp.cells p).length = 5 := rfl
theorem flatK_at (ps : List Prp) (j : Nat) (u : Value) (h : (ps.flatMap Prp.cells)[j]? = some u) : j < (flatK Prp.cells 5 ps.toArray).size ∧ (flatK Prp.cells 5 ps.toArray)[j]! = u := by
  have hl := flat_len Prp.cells 5 cells_len ps
  have hj : j < ps.length * 5 := by rw [← hl]; exact (List.getElem?_eq_some_iff.1 h).1
  refine ⟨by rw [size_flatK]; simpa using hj, ?_⟩
  rw [get_flatK _ _ _ _ (by simpa using hj)]
  rw [flat_get Prp.cells 5 (by omega) cells_len] at h
  obtain ⟨p, hp, hu⟩ := Option.bind_eq_some_iff.1 h
  have e1 : ps.toArray[j / 5]! = p := by
    rw [getElem!_def]
    simp [hp]
  rw [e1, getElem!_def, hu]
theorem holdsK_rc {w : World} {g cap : Nat} {ps : List Prp} (h : HoldsK Prp.cells 5 w g 0 ps.toArray) (h1 : ps.length ≤ cap) (h2 : cap ≤ 9223372036854775807) : RPr w (.slice (some ⟨g, 0, none⟩) ps.length cap) ps := by
  refine ⟨_, cap, rfl, h1, h2, flat_len Prp.cells 5 cells_len ps, (fun h => by cases h), fun j u hu => ⟨_, rfl, ?_⟩⟩
  obtain ⟨a, b⟩ := flatK_at ps j u hu
  have hc := (h j a).1
  rw [b] at hc
  rw [add_plain]
  rw [Nat.zero_add] at hc
  exact hc
theorem ownP_rpr {w : World} {B : Nat} {v : Value} {ps : List Prp} (h : OwnP w B v ps) : RPr w v ps := by
  rcases h with ⟨rfl, rfl⟩ | ⟨g, cap, rfl, _, _, h1, h2, h3⟩
  · exact own_rc (own_nil w 0 48 5)
  · exact holdsK_rc h3 h1 h2
theorem ownP_below {w w1 : World} {B : Nat} {v : Value} {ps : List Prp} (h : OwnP w B v ps) (b : Go.RowKit.Below w.heap.size w w1) : OwnP w1 B v ps := by
  rcases h with h | ⟨g, cap, rfl, h0, h4, h1, h2, h3⟩
  · exact .inl h
  · refine .inr ⟨g, cap, rfl, h0, Nat.lt_of_lt_of_le h4 b.size, h1, h2, fun j hj => ?_⟩
    obtain ⟨a, c⟩ := h3 j hj
    exact ⟨(b.cell (p := ⟨g, 0 + j, none⟩) h4).trans a, (b.frozen (p := ⟨g, 0 + j, none⟩) h4).trans c⟩
theorem own_holdsK {w : World} {B g n cap : Nat} {ps : List Prp} (h : w.ownsRow B 48 5 (.slice (some ⟨g, 0, none⟩) n cap) n (ps.flatMap Prp.cells)) : HoldsK Prp.cells 5 w g 0 ps.toArray ∧ B ≤ g ∧ g < w.heap.size ∧ ps.length = n ∧ n ≤ cap ∧ cap ≤ 9223372036854775807 := by
  have hl := h.1
  rw [flat_len Prp.cells 5 cells_len] at hl
  have hn : ps.length = n := by omega
  have hcell := fun j u hu => h.cells (g := g) rfl j u hu
  rcases h.2 with ⟨h0, _⟩ | ⟨g', cap', cur, he, hb, hh, h1, h2, h3, h4⟩
  · cases h0
  · injection he with e1 e2 e3
    injection e1 with e1
    injection e1 with e1
    subst e1 e3
    refine ⟨fun j hj => ?_, hb, (Array.getElem?_eq_some_iff.1 hh).1, hn, h1, by simpa [maxLen] using h2⟩
    rw [size_flatK] at hj
    have hj' : j < (ps.flatMap Prp.cells).length := by rw [flat_len Prp.cells 5 cells_len]; simpa using hj
    obtain ⟨_, b⟩ := flatK_at ps j _ (List.getElem?_eq_getElem hj')
    rw [b, Nat.zero_add]
    refine ⟨by have hc := hcell j _ (List.getElem?_eq_getElem hj'); rw [add_plain] at hc; exact hc, ?_⟩
    simp [World.frozen?, hh]
theorem rowK_of {w : World} {g : Nat} {ps : List Prp} (h : HoldsK Prp.cells 5 w g 0 ps.toArray) (hg : g < w.heap.size) : RowK Prp.cells 5 w g 0 ps.toArray :=
  ⟨cells_len, fun p v hv => by
    simp only [Prp.cells, List.mem_cons, List.not_mem_nil, or_false] at hv
    rcases hv with rfl | rfl | rfl | rfl | rfl <;> rfl, h, hg⟩
theorem swk_below {w w1 : World} {g : Nat} {dk : Array Prp} (h : SWK Prp.cells 5 w g 0 dk w1) {B : Nat} (hB : B ≤ g) (hs : B ≤ w.heap.size) : Go.RowKit.Below B w w1 := by
  obtain ⟨n, os, rfl⟩ := h
  refine ⟨rfl, rfl, rfl, size_sortWorldK_c Prp.cells 5 w g 0 n dk os, fun i hi => ?_⟩
  have hi2 : i < w.heap.size := by omega
  have hne : ¬ g = i := by omega
  simp [sortWorldK, grow, putRowK, putRow, mapBlock, Sort.ahead, Array.getElem?_append, Array.getElem?_modify, hi2, hne]
  rw [Array.getElem_modify_of_ne hne]
/-- Properties in the order of their names, as the insertion sort leaves them. -/
def sortP (l : List Prp) : List Prp := (Sort.insertionSort (ltOf cfP) l.toArray 0 l.length).toList
theorem sortP_perm (l : List Prp) : (sortP l).Perm l := by
  have h := (insertionSort_holds ltP_swo l.toArray 0 l.length (Nat.zero_le _) (by simp)).1
  unfold sortP
  generalize Sort.insertionSort (ltOf cfP) l.toArray 0 l.length = D at h ⊢
  have h1 := h.1
  have h2 := h.2.2
  have hs : l.toArray.size = l.length := by simp
  have e1 : D.extract 0 l.length = D := by rw [← hs, ← h1]; simp
  have e2 : l.toArray.extract 0 l.length = l.toArray := by rw [← hs]; simp
  rw [e1, e2] at h2
  exact h2.trans (by simp)
def SortPost (w : World) (B : Nat) (v : Value) (ps : List Prp) (e : Ending) (w' : World) : Prop :=
  e = .returned (.tuple #[]) ∧ ∃ qs : List Prp, OwnP w' B v qs ∧ qs.Perm ps ∧ (ps.length < 20 → qs = sortP ps) ∧ Go.RowKit.Below B w w'
theorem sortOwn_c {w : World} {B : Nat} {v : Value} {ps : List Prp} (hB : B ≤ w.heap.size) (h : OwnP w B v ps) (hsz : ps.length < 1152921504606846976) :
    Calls Tryd.prog 61 #[v, .func (.func 62) #[] #[]] w (SortPost w B v ps) := by
  rcases h with ⟨rfl, rfl⟩ | ⟨g, cap, rfl, h0, h4, h1, h2, h3⟩
  · refine sortStable_nil.mono ?_
    rintro e w' ⟨rfl, rfl⟩
    exact ⟨rfl, [], .inl ⟨rfl, rfl⟩, List.Perm.refl _, fun _ => (List.eq_nil_of_length_eq_zero (sortP_perm []).length_eq).symm, Go.RowKit.Below.refl _ _⟩
  · have R := rowK_of h3 h4
    have hc := sortStable_c (cap := cap) R (by simpa using hsz)
    have hsz' : ps.toArray.size = ps.length := by simp
    rw [hsz'] at hc
    refine hc.mono ?_
    rintro e w' ⟨rfl, dk, hd, hp, hx, hS⟩
    have hl : dk.toList.length = ps.length := by rw [Array.length_toList, hd, hsz']
    refine ⟨rfl, dk.toList, .inr ⟨g, cap, by rw [hl], h0, Nat.lt_of_lt_of_le h4 hS.le, by omega, h2, ?_⟩, ?_, fun hl20 => ?_, swk_below hS h0 hB⟩
    · have := hS.holds R.hblk R.hH hd
      simpa using this
    · have := hp.2.2
      rw [hsz'] at this
      have e1 : dk.extract 0 ps.length = dk := by rw [← hsz', ← hd]; simp
      have e2 : ps.toArray.extract 0 ps.length = ps.toArray := by rw [← hsz']; simp
      rw [e1, e2] at this
      simpa using this
    · rw [hx (by rw [hsz']; exact hl20), hsz']
      rfl

/-- Another block's writes, and a block of another kind. -/
theorem own_lt {w : World} {B e s n : Nat} {v : Value} {xs : List Value} (h : w.ownsRow B e s v n xs) {k : Nat} (hk : v.ownBlock = some k) : k < w.heap.size := by
  rcases h.2 with ⟨rfl, _⟩ | ⟨g, cap, cur, rfl, _, hg, _⟩
  · cases hk
  · injection hk with hk
    have e' : g = k := hk
    subst e'
    exact (Array.getElem?_eq_some_iff.1 hg).1
theorem own_ne {w : World} {B e s n b t : Nat} {v : Value} {xs : List Value} {cs : Array Value} {fr : Nat × Nat} (h : w.ownsRow B e s v n xs) (hb : w.heap[b]? = some (.cells cs t fr)) (ht : t ≠ e) : v.ownBlock ≠ some b := by
  intro e'
  rcases h.2 with ⟨rfl, _⟩ | ⟨g, cap, cur, rfl, _, hg, _⟩
  · cases e'
  · injection e' with e'
    have e2 : g = b := e'
    subst e2
    rw [hb] at hg
    injection hg with hg
    injection hg with _ h2 _
    exact ht h2
theorem info_prop : (Tryd.prog.info? 48).map (fun i => (i.zero, i.size, i.bytes)) = some (some (.agg #[.string ByteArray.empty, .int .i64 0, .int .i64 0, .string ByteArray.empty, .float .f64 0]), 5, 56) := by kernel_rfl
theorem cells_one (l : List Prp) : ∀ y ∈ l.flatMap Prp.cells, y.oneCell' = true := by
  intro y hy
  obtain ⟨p, _, hv⟩ := List.mem_flatMap.1 hy
  simp only [Prp.cells, List.mem_cons, List.not_mem_nil, or_false] at hv
  rcases hv with rfl | rfl | rfl | rfl | rfl <;> rfl

/-- A table: its items, in the order of their names. -/
def itemP (s : ByteArray) : Option (Prp × ByteArray) := (shortP s).bind fun p => (valP p.2).map fun q => (⟨p.1, q.1.k, q.1.n, q.1.t, q.1.r⟩, q.2)
def itemsP : Nat → ByteArray → Option (List Prp)
  | 0, s => if s.size = 0 then some [] else none
  | f + 1, s => if s.size = 0 then some [] else (itemP s).bind fun p => (itemsP f p.2).map (p.1 :: ·)
def tabP (l : List Prp) : Option (List Prp) := if l.length < 20 ∧ validB (sortP l) = true then some (sortP l) else none
def tableP (s : ByteArray) : Option (List Prp × ByteArray) := (longP s).bind fun p => ((itemsP p.1.size p.1).bind tabP).map fun l => (l, p.2)

theorem shortP_size {s x r : ByteArray} (h : shortP s = some (x, r)) : x.size ≤ 255 ∧ r.size + x.size + 1 = s.size := by
  unfold shortP at h
  obtain ⟨p, h1, h2⟩ := Option.bind_eq_some_iff.1 h
  obtain ⟨n, y⟩ := p
  have a := numP_lt h1
  have b := numP_size h1
  obtain ⟨c, d⟩ := takeP_size h2
  simp only [Nat.pow_one] at a
  dsimp only at c d
  omega
theorem longP_size {s x r : ByteArray} (h : longP s = some (x, r)) : r.size + x.size + 4 = s.size := by
  unfold longP at h
  obtain ⟨p, h1, h2⟩ := Option.bind_eq_some_iff.1 h
  obtain ⟨n, y⟩ := p
  have b := numP_size h1
  obtain ⟨c, d⟩ := takeP_size h2
  dsimp only at c d
  omega
theorem valQ_size {x r r' : ByteArray} {v : Vl} (h : valQ x r = some (v, r')) : r'.size ≤ r.size := by
  unfold valQ at h
  have key : ∀ {k : Nat} {f : Nat → Vl} {a : ByteArray}, (numP k a).map (fun q => (f q.1, q.2)) = some (v, r') → r'.size ≤ a.size := by
    intro k f a h
    obtain ⟨q, h1, h2⟩ := Option.map_eq_some_iff.1 h
    obtain ⟨n, y⟩ := q
    injection h2 with _ h2
    have := numP_size h1
    dsimp only at h2
    rw [← h2]
    omega
  (repeat' split at h)
  · exact key (f := fun n => ⟨2, n, ByteArray.empty, 0⟩) h
  · exact key (f := fun n => ⟨1, sgn 8 n, ByteArray.empty, 0⟩) h
  · exact key (f := fun n => ⟨1, sgn 16 n, ByteArray.empty, 0⟩) h
  · exact key (f := fun n => ⟨1, sgn 32 n, ByteArray.empty, 0⟩) h
  · exact key (f := fun n => ⟨1, sgn 64 n, ByteArray.empty, 0⟩) h
  · exact key (f := fun n => ⟨4, 0, ByteArray.empty, widR n⟩) h
  · exact key (f := fun n => ⟨4, 0, ByteArray.empty, canonR n⟩) h
  · obtain ⟨q, h1, h2⟩ := Option.map_eq_some_iff.1 h
    obtain ⟨n, y⟩ := q
    injection h2 with _ h2
    have := longP_size h1
    dsimp only at h2
    rw [← h2]
    omega
  · cases h
theorem valP_size {s r : ByteArray} {v : Vl} (h : valP s = some (v, r)) : r.size + 1 ≤ s.size := by
  unfold valP at h
  obtain ⟨p, h1, h2⟩ := Option.bind_eq_some_iff.1 h
  obtain ⟨x, y⟩ := p
  have := (takeP_size h1).2
  have := valQ_size h2
  dsimp only at this
  omega
theorem itemP_size {s r : ByteArray} {p : Prp} (h : itemP s = some (p, r)) : r.size + 2 ≤ s.size ∧ p.nm.size ≤ 255 := by
  unfold itemP at h
  obtain ⟨q, h1, h2⟩ := Option.bind_eq_some_iff.1 h
  obtain ⟨x, y⟩ := q
  obtain ⟨q2, h3, h4⟩ := Option.map_eq_some_iff.1 h2
  obtain ⟨v, z⟩ := q2
  injection h4 with h4 h5
  have a := shortP_size h1
  have b := valP_size h3
  dsimp only at b h5
  subst h5 h4
  exact ⟨by omega, a.1⟩
theorem itemsP_more : ∀ (f : Nat) (s : ByteArray) (k : Nat), s.size ≤ f → itemsP (f + k) s = itemsP s.size s
  | f, s, k, h => by
    have key : ∀ (n : Nat) (s : ByteArray) (f f' : Nat), s.size ≤ n → s.size ≤ f → s.size ≤ f' → itemsP f s = itemsP f' s := by
      intro n
      induction n with
      | zero =>
        intro s f f' h1 _ _
        have h0 : s.size = 0 := by omega
        cases f <;> cases f' <;> simp [itemsP, h0]
      | succ n ih =>
        intro s f f' h1 h2 h3
        by_cases h0 : s.size = 0
        · cases f <;> cases f' <;> simp [itemsP, h0]
        · obtain ⟨f, rfl⟩ : ∃ k, f = k + 1 := ⟨f - 1, by omega⟩
          obtain ⟨f', rfl⟩ : ∃ k, f' = k + 1 := ⟨f' - 1, by omega⟩
          simp only [itemsP, if_neg h0]
          cases hi : itemP s with
          | none => rfl
          | some p =>
            obtain ⟨p, r⟩ := p
            have := (itemP_size hi).1
            simp only [Option.bind_some]
            rw [ih r f f' (by omega) (by omega) (by omega)]
    exact key s.size s _ _ (Nat.le_refl _) (by omega) (Nat.le_refl _)
theorem itemsP_nil {s : ByteArray} (h : s.size = 0) : itemsP s.size s = some [] := by
  rw [h]
  simp [itemsP, h]
theorem itemsP_step {s : ByteArray} (h : s.size ≠ 0) : itemsP s.size s = (itemP s).bind fun p => (itemsP p.2.size p.2).map (p.1 :: ·) := by
  obtain ⟨f, hf⟩ : ∃ k, s.size = k + 1 := ⟨s.size - 1, by omega⟩
  rw [hf]
  simp only [itemsP, if_neg h]
  cases hi : itemP s with
  | none => rfl
  | some p =>
    obtain ⟨p, r⟩ := p
    have := (itemP_size hi).1
    simp only [Option.bind_some]
    have e := itemsP_more r.size r (f - r.size) (Nat.le_refl _)
    rw [show r.size + (f - r.size) = f by omega] at e
    rw [e]
end Go.Proofs.YteigbejidfkhpaaDoor

/- Plain law: a float's bytes tell the float. -/
namespace Go.Proofs.YteigbejidfkhpaaDoor
open Go Go.RowKit
set_option linter.unusedSimpArgs false
set_option linter.unusedVariables false

theorem narB_spec {r n : Nat} (hn : nanB r = false) (h : narB r = some n) : ∃ v, widenE n = some v ∧ Ieee.double.order v r = some .eq ∧ v < 2 ^ 64 := by
  have hw : ∀ d, Ieee.double.write d < 2 ^ 64 := fun d => Ieee.Format.write_lt Ieee.double d
  cases hrd : Ieee.double.read r with
  | nan s t => exact absurd hrd (nar_nan hn s t)
  | infinity s =>
    have e : narB r = some (Ieee.single.write (.infinity s)) := by unfold narB; rw [if_neg (by rw [hn]; decide), hrd]
    rw [e] at h
    injection h with h
    subst h
    refine ⟨Ieee.double.write (.infinity s), by cases s <;> decide, ?_, hw _⟩
    unfold Ieee.Format.order
    rw [hrd, show Ieee.double.read (Ieee.double.write (.infinity s)) = .infinity s by cases s <;> decide]
    cases s <;> rfl
  | number s m e =>
    cases hi : (Ieee.single.read (Ieee.single.write (.number s m e))).isInfinity with
    | true =>
      have en : narB r = none := by unfold narB; rw [if_neg (by rw [hn]; decide), hrd]; show (if _ then _ else _) = _; rw [if_pos hi]
      rw [en] at h
      cases h
    | false =>
      cases hv : widenE (Ieee.single.write (.number s m e)) with
      | none => rw [narB_none hn hrd hi hv] at h; cases h
      | some v =>
        rw [narB_some hn hrd hi hv] at h
        split at h
        · rename_i ho
          injection h with h
          subst h
          refine ⟨v, hv, ho, ?_⟩
          unfold widenE at hv
          split at hv
          · injection hv with hv; rw [← hv]; exact hw _
          · injection hv with hv; rw [← hv]; exact hw _
          · cases hv
        · cases h

theorem narB_inj {r r' n : Nat} (hr : r < 2 ^ 64) (hr' : r' < 2 ^ 64) (hc : r = canonR r) (hc' : r' = canonR r') (h : narB r = some n) (h' : narB r' = some n) : r = r' := by
  have hnan : ∀ x, nanB x = true → narB x = some 2143289344 := fun x hx => by unfold narB; rw [if_pos hx]
  have hwn : widenE 2143289344 = none := by decide
  cases h1 : nanB r with
  | true =>
    cases h2 : nanB r' with
    | true => rw [hc, hc', canonR, canonR, h1, h2]; rfl
    | false =>
      rw [hnan r h1] at h
      injection h with h
      subst h
      obtain ⟨v, hv, _⟩ := narB_spec h2 h'
      rw [hwn] at hv
      cases hv
  | false =>
    cases h2 : nanB r' with
    | true =>
      rw [hnan r' h2] at h'
      injection h' with h'
      subst h'
      obtain ⟨v, hv, _⟩ := narB_spec h1 h
      rw [hwn] at hv
      cases hv
    | false =>
      obtain ⟨v, hv, ho, hl⟩ := narB_spec h1 h
      obtain ⟨v', hv', ho', _⟩ := narB_spec h2 h'
      rw [hv] at hv'
      injection hv' with hv'
      subst hv'
      have z0 : narB 0 = some 0 := by decide +kernel
      have z1 : narB (2 ^ 63) = some (2 ^ 31) := by decide +kernel
      rcases FloatL.order_eq hl hr ho with ⟨a, b⟩ | a
      · rcases FloatL.order_eq hl hr' ho' with ⟨c, d⟩ | c
        · have e1 : r = 0 ∨ r = 2 ^ 63 := by omega
          have e2 : r' = 0 ∨ r' = 2 ^ 63 := by omega
          rcases e1 with rfl | rfl <;> rcases e2 with rfl | rfl
          · rfl
          · rw [z0] at h; rw [z1] at h'; rw [← h] at h'; injection h' with h'; exact absurd h' (by decide)
          · rw [z1] at h; rw [z0] at h'; rw [← h] at h'; injection h' with h'; exact absurd h' (by decide)
          · rfl
        · subst c
          have e1 : r = 0 ∨ r = 2 ^ 63 := by omega
          have e2 : v = 0 ∨ v = 2 ^ 63 := by omega
          rcases e1 with rfl | rfl <;> rcases e2 with rfl | rfl
          · rfl
          · rw [z0] at h; rw [z1] at h'; rw [← h] at h'; injection h' with h'; exact absurd h' (by decide)
          · rw [z1] at h; rw [z0] at h'; rw [← h] at h'; injection h' with h'; exact absurd h' (by decide)
          · rfl
      · subst a
        rcases FloatL.order_eq hl hr' ho' with ⟨c, d⟩ | c
        · have e1 : v = 0 ∨ v = 2 ^ 63 := by omega
          have e2 : r' = 0 ∨ r' = 2 ^ 63 := by omega
          rcases e1 with rfl | rfl <;> rcases e2 with rfl | rfl
          · rfl
          · rw [z0] at h; rw [z1] at h'; rw [← h] at h'; injection h' with h'; exact absurd h' (by decide)
          · rw [z1] at h; rw [z0] at h'; rw [← h] at h'; injection h' with h'; exact absurd h' (by decide)
          · rfl
        · exact c
end Go.Proofs.YteigbejidfkhpaaDoor

/- Plain law: a property list's bytes tell the list. -/
namespace Go.Proofs.YteigbejidfkhpaaDoor
open Go Go.RowKit
set_option linter.unusedSimpArgs false
set_option linter.unusedVariables false

theorem beB_inj {n m k : Nat} (hn : n < 256 ^ k) (hm : m < 256 ^ k) (h : beB n k = beB m k) : n = m := by
  have := congrArg natB h
  rwa [natB_beB, natB_beB, Nat.mod_eq_of_lt hn, Nat.mod_eq_of_lt hm] at this
theorem realB_inj {r r' : Nat} {u u' : List UInt8} (hr : r < 2 ^ 64) (hr' : r' < 2 ^ 64) (hc : r = canonR r) (hc' : r' = canonR r') (h : realB r ++ u = realB r' ++ u') : r = r' ∧ u = u' := by
  unfold realB at h
  cases h1 : narB r with
  | none =>
    rw [h1] at h
    cases h2 : narB r' with
    | none =>
      rw [h2] at h
      simp only [List.cons_append, List.cons.injEq, true_and] at h
      obtain ⟨a, b⟩ := List.append_inj h (by rw [beB_len, beB_len])
      exact ⟨beB_inj (by simpa using hr) (by simpa using hr') a, b⟩
    | some n => rw [h2] at h; simp at h
  | some n =>
    rw [h1] at h
    cases h2 : narB r' with
    | none => rw [h2] at h; simp at h
    | some m =>
      rw [h2] at h
      simp only [List.cons_append, List.cons.injEq, true_and] at h
      obtain ⟨a, b⟩ := List.append_inj h (by rw [beB_len, beB_len])
      have hnm : n = m := beB_inj (by have := narB_lt h1; simpa using this) (by have := narB_lt h2; simpa using this) a
      subst hnm
      exact ⟨narB_inj hr hr' hc hc' h1 h2, b⟩
end Go.Proofs.YteigbejidfkhpaaDoor

/- Plain law: a value's bytes tell the value. -/
namespace Go.Proofs.YteigbejidfkhpaaDoor
open Go Go.RowKit
set_option linter.unusedSimpArgs false
set_option linter.unusedVariables false

/-- The first byte tells the kind. -/
theorem realB_head (r : Nat) (u : List UInt8) : ∃ x l, realB r ++ u = x :: l ∧ x ≠ 108 ∧ x ≠ 116 ∧ x ≠ 83 := by
  unfold realB
  cases narB r with
  | none => exact ⟨100, _, rfl, by decide, by decide, by decide⟩
  | some n => exact ⟨102, _, rfl, by decide, by decide, by decide⟩
def Prp.fit (p : Prp) : Prop := p.good = true ∧ p.r < 2 ^ 64 ∧ -9223372036854775808 ≤ p.n ∧ p.n ≤ 9223372036854775807
theorem val1 {p : Prp} (h : p.k = 1) : valB p = 108 :: beB (p.n % 18446744073709551616).toNat 8 := by unfold valB; rw [if_pos h]
theorem val2 {p : Prp} (h : p.k = 2) : valB p = [116, UInt8.ofNat p.n.toNat] := by unfold valB; rw [if_neg (by omega), if_pos h]
theorem val3 {p : Prp} (h : p.k = 3) : valB p = 83 :: (beB p.t.size 4 ++ p.t.data.toList) := by unfold valB; rw [if_neg (by omega), if_neg (by omega), if_pos h]
theorem val4 {p : Prp} (h : p.k = 4) : valB p = realB p.r := by unfold valB; rw [if_neg (by omega), if_neg (by omega), if_neg (by omega)]
theorem t_eq {s t : ByteArray} (hs : s.size = 0) (ht : t.size = 0) : s = t := by rw [ba_nil hs, ba_nil ht]

theorem valB_inj {p q : Prp} {u u' : List UInt8} (hp : p.fit) (hq : q.fit) (h : valB p ++ u = valB q ++ u') : p.k = q.k ∧ p.n = q.n ∧ p.t = q.t ∧ p.r = q.r ∧ u = u' := by
  obtain ⟨gp, rp, np0, np1⟩ := hp
  obtain ⟨gq, rq, nq0, nq1⟩ := hq
  obtain ⟨x, lx, hx, hx1, hx2, hx3⟩ := realB_head p.r u
  obtain ⟨y, ly, hy, hy1, hy2, hy3⟩ := realB_head q.r u'
  rcases good_of gp with ⟨a, b, c⟩ | ⟨a, b, c, d⟩ | ⟨a, b, c, d⟩ | ⟨a, b, c, d⟩ <;> rcases good_of gq with ⟨a', b', c'⟩ | ⟨a', b', c', d'⟩ | ⟨a', b', c', d'⟩ | ⟨a', b', c', d'⟩
  · rw [val1 a, val1 a'] at h
    simp only [List.cons_append, List.cons.injEq, true_and] at h
    obtain ⟨e, f⟩ := List.append_inj h (by rw [beB_len, beB_len])
    have := beB_inj (k := 8) (by show _ < 18446744073709551616; omega) (by show _ < 18446744073709551616; omega) e
    exact ⟨by omega, by omega, t_eq b b', by omega, f⟩
  · rw [val1 a, val2 a'] at h; simp at h
  · rw [val1 a, val3 a'] at h; simp at h
  · rw [val1 a, val4 a', hy] at h; injection h with h; exact absurd h.symm hy1
  · rw [val2 a, val1 a'] at h; simp at h
  · rw [val2 a, val2 a'] at h
    simp only [List.cons_append, List.cons.injEq, true_and, List.nil_append] at h
    refine ⟨by omega, ?_, t_eq b b', by omega, h.2⟩
    rcases d with d | d <;> rcases d' with d' | d'
    · omega
    · rw [d, d'] at h; exact absurd h.1 (by decide)
    · rw [d, d'] at h; exact absurd h.1 (by decide)
    · omega
  · rw [val2 a, val3 a'] at h; simp at h
  · rw [val2 a, val4 a', hy] at h; injection h with h; exact absurd h.symm hy2
  · rw [val3 a, val1 a'] at h; simp at h
  · rw [val3 a, val2 a'] at h; simp at h
  · rw [val3 a, val3 a'] at h
    simp only [List.cons_append, List.cons.injEq, true_and, List.append_assoc] at h
    obtain ⟨e, f⟩ := List.append_inj h (by rw [beB_len, beB_len])
    have hs := beB_inj (k := 4) (by show _ < 4294967296; omega) (by show _ < 4294967296; omega) e
    obtain ⟨f1, f2⟩ := List.append_inj f (by rw [ba_size, ba_size, hs])
    exact ⟨by omega, by omega, ba_ext f1, by omega, f2⟩
  · rw [val3 a, val4 a', hy] at h; injection h with h; exact absurd h.symm hy3
  · rw [val4 a, val1 a', hx] at h; injection h with h; exact absurd h hx1
  · rw [val4 a, val2 a', hx] at h; injection h with h; exact absurd h hx2
  · rw [val4 a, val3 a', hx] at h; injection h with h; exact absurd h hx3
  · rw [val4 a, val4 a'] at h
    obtain ⟨e, f⟩ := realB_inj rp rq d d' h
    exact ⟨by omega, by omega, t_eq c c', e, f⟩

theorem propB_inj {p q : Prp} {u u' : List UInt8} (np : p.nm.size ≤ 16) (nq : q.nm.size ≤ 16) (hp : p.fit) (hq : q.fit) (h : propB p ++ u = propB q ++ u') : p = q ∧ u = u' := by
  unfold propB at h
  simp only [List.cons_append, List.cons.injEq, List.append_assoc] at h
  obtain ⟨h1, h2⟩ := h
  have hs : p.nm.size = q.nm.size := by
    have := congrArg UInt8.toNat h1
    rw [UInt8.toNat_ofNat', UInt8.toNat_ofNat', Nat.mod_eq_of_lt (by omega), Nat.mod_eq_of_lt (by omega)] at this
    exact this
  obtain ⟨a, b⟩ := List.append_inj h2 (by rw [ba_size, ba_size, hs])
  obtain ⟨e1, e2, e3, e4, e5⟩ := valB_inj hp hq b
  have e0 := ba_ext a
  refine ⟨?_, e5⟩
  cases p; cases q
  simp_all
theorem propsB_inj : ∀ (ps qs : List Prp), (∀ p ∈ ps, p.nm.size ≤ 16 ∧ p.fit) → (∀ q ∈ qs, q.nm.size ≤ 16 ∧ q.fit) → propsB ps = propsB qs → ps = qs
  | [], [], _, _, _ => rfl
  | [], q :: r, _, _, h => by simp [propsB, propB] at h
  | p :: r, [], _, _, h => by simp [propsB, propB] at h
  | p :: r, q :: r', hp, hq, h => by
    have e1 : propsB (p :: r) = propB p ++ propsB r := by simp [propsB]
    have e2 : propsB (q :: r') = propB q ++ propsB r' := by simp [propsB]
    rw [e1, e2] at h
    have a := hp p (List.mem_cons_self ..)
    have b := hq q (List.mem_cons_self ..)
    obtain ⟨x, y⟩ := propB_inj a.1 b.1 a.2 b.2 h
    rw [x, propsB_inj r r' (fun z hz => hp z (List.mem_cons_of_mem _ hz)) (fun z hz => hq z (List.mem_cons_of_mem _ hz)) y]
end Go.Proofs.YteigbejidfkhpaaDoor

/- Plain law: a valid list's bytes are read as the list. -/
namespace Go.Proofs.YteigbejidfkhpaaDoor
open Go Go.Proofs Go.RowKit
set_option linter.unusedSimpArgs false
set_option linter.unusedVariables false

def bs (l : List UInt8) : ByteArray := ⟨l.toArray⟩
theorem bs_size (l : List UInt8) : (bs l).size = l.length := by unfold bs; show l.toArray.size = _; simp
theorem bs_list (l : List UInt8) : (bs l).data.toList = l := by simp [bs]
theorem bs_of (s : ByteArray) : bs s.data.toList = s := ba_ext (bs_list _)
theorem ba_extract (s : ByteArray) (a b : Nat) : (s.extract a b).data.toList = (s.data.toList.take b).drop a := by
  rw [Lib.extract_data, List.drop_take]
theorem bs_extract (l : List UInt8) (a b : Nat) : (bs l).extract a b = bs ((l.take b).drop a) := by
  apply ba_ext
  rw [bs_list, ba_extract, bs_list]
theorem takeP_app (x r : List UInt8) : takeP x.length (bs (x ++ r)) = some (bs x, bs r) := by
  unfold takeP
  rw [if_pos (by rw [bs_size, List.length_append]; omega), bs_extract, bs_extract]
  have e1 : (x ++ r).take (x.length + r.length) = x ++ r := List.take_of_length_le (by rw [List.length_append]; omega)
  simp [bs_size, e1]
theorem takeP_short {n : Nat} {l : List UInt8} (h : l.length < n) : takeP n (bs l) = none := by
  unfold takeP
  rw [if_neg (by rw [bs_size]; omega)]
theorem numP_app (k n : Nat) (hn : n < 256 ^ k) (r : List UInt8) : numP k (bs (beB n k ++ r)) = some (n, bs r) := by
  have h := takeP_app (beB n k) r
  rw [beB_len] at h
  unfold numP
  rw [h]
  simp only [Option.map_some, bs_list]
  rw [natB_beB, Nat.mod_eq_of_lt hn]
theorem numP_short {k : Nat} {l : List UInt8} (h : l.length < k) : numP k (bs l) = none := by
  unfold numP
  rw [takeP_short h]
  rfl
theorem longP_app (x r : List UInt8) (hx : x.length < 4294967296) : longP (bs (beB x.length 4 ++ (x ++ r))) = some (bs x, bs r) := by
  unfold longP
  rw [numP_app 4 x.length hx]
  exact takeP_app x r
theorem shortP_app (x r : List UInt8) (hx : x.length < 256) : shortP (bs (UInt8.ofNat x.length :: (x ++ r))) = some (bs x, bs r) := by
  have h : UInt8.ofNat x.length :: (x ++ r) = beB x.length 1 ++ (x ++ r) := by simp [beB, dig]
  unfold shortP
  rw [h, numP_app 1 x.length hx]
  exact takeP_app x r
theorem takeP_one (c : UInt8) (r : List UInt8) : takeP 1 (bs (c :: r)) = some (⟨#[c]⟩, bs r) := takeP_app [c] r

theorem sgn64 (n : Int) (h0 : -9223372036854775808 ≤ n) (h1 : n ≤ 9223372036854775807) : sgn 64 (n % 18446744073709551616).toNat = n := by
  unfold sgn
  show (if _ < 9223372036854775808 then _ else _ - 18446744073709551616) = n
  split <;> omega
theorem widR_back {r n : Nat} (hr : r < 2 ^ 64) (hc : r = canonR r) (h : narB r = some n) : widR n = r := by
  by_cases hn : nanB r = true
  · have e : r = 9221120237041090561 := by rw [hc]; unfold canonR; rw [if_pos hn]
    have e2 : n = 2143289344 := by
      unfold narB at h
      rw [if_pos hn] at h
      injection h with h
      exact h.symm
    rw [e, e2]
    decide +kernel
  · have hn' : nanB r = false := by simpa using hn
    obtain ⟨v, hv, ho, hv64⟩ := narB_spec hn' h
    rcases FloatL.order_eq hv64 hr ho with ⟨_, hz⟩ | e
    · have h2 : r = 0 ∨ r = 9223372036854775808 := by
        have : (2 : Nat) ^ 63 = 9223372036854775808 := by decide
        have : (2 : Nat) ^ 64 = 18446744073709551616 := by decide
        omega
      rcases h2 with rfl | rfl
      · have e : narB 0 = some 0 := by decide +kernel
        rw [e] at h
        injection h with h
        rw [← h]
        decide +kernel
      · have e : narB 9223372036854775808 = some 2147483648 := by decide +kernel
        rw [e] at h
        injection h with h
        rw [← h]
        decide +kernel
    · subst e
      unfold widR
      rw [hv]
      exact hc.symm

theorem valP_app {p : Prp} (hp : p.fit) (r : List UInt8) : valP (bs (valB p ++ r)) = some (⟨p.k, p.n, p.t, p.r⟩, bs r) := by
  obtain ⟨gp, rp, np0, np1⟩ := hp
  rcases good_of gp with ⟨a, b, c⟩ | ⟨a, b, c, d⟩ | ⟨a, b, c, d⟩ | ⟨a, b, c, d⟩
  · rw [val1 a, List.cons_append]
    unfold valP
    rw [takeP_one, Option.bind_some]
    show valQ ⟨#[108]⟩ _ = _
    unfold valQ
    rw [if_neg (by decide), if_neg (by decide), if_neg (by decide), if_neg (by decide), if_pos rfl, numP_app 8 _ (by show _ < 18446744073709551616; omega), Option.map_some]
    rw [sgn64 _ np0 np1, ba_nil b, a, c]
  · rw [val2 a, List.cons_append, List.cons_append, List.nil_append]
    unfold valP
    rw [takeP_one, Option.bind_some]
    show valQ ⟨#[116]⟩ _ = _
    unfold valQ
    have h := numP_app 1 p.n.toNat (by rw [Nat.pow_one]; omega) r
    rw [show beB p.n.toNat 1 ++ r = UInt8.ofNat p.n.toNat :: r by simp [beB, dig]] at h
    rw [if_pos rfl, h, Option.map_some]
    rw [ba_nil b, a, c, show ((p.n.toNat : Nat) : Int) = p.n by omega]
  · rw [val3 a, List.cons_append, List.append_assoc]
    unfold valP
    rw [takeP_one, Option.bind_some]
    show valQ ⟨#[83]⟩ _ = _
    unfold valQ
    have h := longP_app p.t.data.toList r (by rw [ba_size]; omega)
    rw [ba_size] at h
    rw [if_neg (by decide), if_neg (by decide), if_neg (by decide), if_neg (by decide), if_neg (by decide), if_neg (by decide), if_neg (by decide), if_pos rfl, h, Option.map_some]
    rw [bs_of, a, b, c]
  · rw [val4 a]
    unfold realB
    cases hn : narB p.r with
    | some n =>
      dsimp only
      rw [List.cons_append]
      unfold valP
      rw [takeP_one, Option.bind_some]
      show valQ ⟨#[102]⟩ _ = _
      unfold valQ
      rw [if_neg (by decide), if_neg (by decide), if_neg (by decide), if_neg (by decide), if_neg (by decide), if_pos rfl, numP_app 4 n (narB_lt hn), Option.map_some]
      rw [widR_back rp d hn, ba_nil c, a, b]
    | none =>
      dsimp only
      rw [List.cons_append]
      unfold valP
      rw [takeP_one, Option.bind_some]
      show valQ ⟨#[100]⟩ _ = _
      unfold valQ
      rw [if_neg (by decide), if_neg (by decide), if_neg (by decide), if_neg (by decide), if_neg (by decide), if_neg (by decide), if_pos rfl, numP_app 8 p.r rp, Option.map_some]
      dsimp only
      rw [← d, ba_nil c, a, b]
theorem itemP_app {p : Prp} (hn : p.nm.size ≤ 16) (hp : p.fit) (r : List UInt8) : itemP (bs (propB p ++ r)) = some (p, bs r) := by
  unfold itemP propB
  have h := shortP_app p.nm.data.toList (valB p ++ r) (by rw [ba_size]; omega)
  rw [ba_size] at h
  rw [List.cons_append, List.append_assoc, h, Option.bind_some]
  dsimp only
  rw [valP_app hp, Option.map_some, bs_of]
theorem itemsP_app : ∀ (ps : List Prp), (∀ p ∈ ps, p.nm.size ≤ 16 ∧ p.fit) → itemsP (bs (propsB ps)).size (bs (propsB ps)) = some ps
  | [], _ => itemsP_nil (by rw [bs_size]; rfl)
  | p :: r, h => by
    have e : propsB (p :: r) = propB p ++ propsB r := by simp [propsB]
    rw [e, itemsP_step (by rw [bs_size]; unfold propB; simp), itemP_app (h p (List.mem_cons_self ..)).1 (h p (List.mem_cons_self ..)).2, Option.bind_some]
    dsimp only
    rw [itemsP_app r (fun q hq => h q (List.mem_cons_of_mem _ hq))]
    rfl

/-! ### A sorted list is sorted as it is; a table's bytes -/
open Go.Sort in
theorem insOuter_id {d : Array Prp} {b : Nat} (h : ∀ i, 0 < i → i < b → ltOf cfP d[i]! d[i - 1]! = false) : ∀ (n i : Nat), b - i ≤ n → 0 < i → insOuter (ltOf cfP) 0 b i d = d
  | 0, i, hn, h0 => insOuter_stop _ _ _ _ _ (by omega)
  | n + 1, i, hn, h0 => by
    by_cases hi : i < b
    · rw [insOuter_go _ _ _ _ _ hi, insInner_stop _ _ _ _ (.inr (h i h0 hi))]
      exact insOuter_id h n (i + 1) (by omega) (by omega)
    · exact insOuter_stop _ _ _ _ _ hi
theorem valid_lt : ∀ (ps : List Prp) (o : Option ByteArray), validL o ps = true → ∀ i p q, ps[i]? = some p → ps[i + 1]? = some q → Go.Op.bytesLess p.nm.toList q.nm.toList = true
  | [], _, _, _, _, _, hp, _ => by simp at hp
  | a :: r, o, h, i, p, q, hp, hq => by
    have hr : validL (some a.nm) r = true := by
      cases o <;> (unfold validL at h; simp only [Bool.and_eq_true] at h; exact h.2)
    cases i with
    | zero =>
      simp only [List.getElem?_cons_zero, Option.some.injEq] at hp
      subst hp
      cases r with
      | nil => simp at hq
      | cons b r =>
        simp only [List.getElem?_cons_succ, List.getElem?_cons_zero, Option.some.injEq] at hq
        subst hq
        unfold validL at hr
        simp only [Bool.and_eq_true] at hr
        exact hr.1.2
    | succ i => exact valid_lt r _ hr i p q (by simpa using hp) (by simpa using hq)
theorem less_iff (a b : ByteArray) : Go.Op.bytesLess a.toList b.toList = true ↔ a.data.toList < b.data.toList := by
  rw [bytesLess_eq, decide_eq_true_eq, ByteArray.toList_eq, ByteArray.toList_eq]
theorem sortP_valid {ps : List Prp} (h : validB ps = true) : sortP ps = ps := by
  have hv : validL none ps = true := by unfold validB at h; simp only [Bool.and_eq_true] at h; exact h.1
  have hl := valid_lt ps none hv
  unfold sortP Sort.insertionSort
  rw [insOuter_id (d := ps.toArray) (b := ps.length) ?_ ps.length 1 (by omega) (by omega)]
  intro i h0 hi
  obtain ⟨j, rfl⟩ : ∃ j, i = j + 1 := ⟨i - 1, by omega⟩
  have h1 := hl j ps[j] ps[j + 1] (List.getElem?_eq_getElem (by omega)) (List.getElem?_eq_getElem hi)
  rw [less_iff] at h1
  have e1 : ps.toArray[j + 1]! = ps[j + 1] := by simp [getElem!_def, hi]
  have e2 : ps.toArray[j + 1 - 1]! = ps[j] := by simp [getElem!_def, show j < ps.length by omega]
  rw [e1, e2, ltP_no]
  exact fun h2 => List.lt_irrefl _ (List.lt_trans h1 h2)
theorem tabP_valid {ps : List Prp} (h : validB ps = true) : tabP ps = some ps := by
  have := valid_len h
  unfold tabP
  rw [sortP_valid h, if_pos ⟨by omega, h⟩]
/-- What table.Put writes. -/
def putB (ps : List Prp) : List UInt8 := beB (propsB ps).length 4 ++ propsB ps
theorem fit_of {ps : List Prp} (h : validB ps = true) (hf : ∀ p ∈ ps, p.r < 2 ^ 64 ∧ -9223372036854775808 ≤ p.n ∧ p.n ≤ 9223372036854775807) : ∀ p ∈ ps, p.nm.size ≤ 16 ∧ p.fit := fun p hp => by
  obtain ⟨v1, v2⟩ := valid_all h p hp
  obtain ⟨q1, q2, q3⟩ := hf p hp
  unfold nameB at v1
  simp only [Bool.and_eq_true, decide_eq_true_eq] at v1
  exact ⟨v1.1.2, v2, q1, q2, q3⟩
theorem props_small {ps : List Prp} (h : validB ps = true) : (propsB ps).length ≤ 4448 := by
  have l1 := propsB_len ps (valid_all h)
  have m1 := valid_len h
  omega
theorem tableP_put {ps : List Prp} (h : validB ps = true) (hf : ∀ p ∈ ps, p.r < 2 ^ 64 ∧ -9223372036854775808 ≤ p.n ∧ p.n ≤ 9223372036854775807) (more : List UInt8) : tableP (bs (putB ps ++ more)) = some (ps, bs more) := by
  have hs := props_small h
  unfold tableP putB
  rw [List.append_assoc, longP_app _ _ (by omega), Option.bind_some]
  dsimp only
  rw [itemsP_app ps (fit_of h hf), Option.bind_some, tabP_valid h]
  rfl
/-- Nothing shorter is a table. -/
theorem tableP_short {ps : List Prp} (h : validB ps = true) {k : Nat} (hk : k < (putB ps).length) : tableP (bs ((putB ps).take k)) = none := by
  have hs := props_small h
  have hl : longP (bs ((putB ps).take k)) = none := by
    unfold longP
    by_cases h4 : k < 4
    · rw [numP_short (by rw [List.length_take]; omega)]
      rfl
    · have e : (putB ps).take k = beB (propsB ps).length 4 ++ (propsB ps).take (k - 4) := by
        unfold putB
        rw [List.take_append, List.take_of_length_le (by rw [beB_len]; omega), beB_len]
      rw [e, numP_app 4 _ (by show _ < 4294967296; omega), Option.bind_some]
      refine takeP_short ?_
      unfold putB at hk
      rw [List.length_append, beB_len] at hk
      rw [List.length_take]
      omega
  unfold tableP
  rw [hl]
  rfl
end Go.Proofs.YteigbejidfkhpaaDoor

/- The reference's table, plain laws: insertion one by one. -/
namespace Go.Proofs.YteigbejidfkhpaaDoor
open Go Go.RowKit
set_option linter.unusedSimpArgs false
set_option linter.unusedVariables false

def LtP (a b : Prp) : Prop := a.nm.data.toList < b.nm.data.toList
theorem ltP_irr (a : Prp) : ¬ LtP a a := List.lt_irrefl _
theorem ltP_trans {a b c : Prp} (h : LtP a b) (k : LtP b c) : LtP a c := List.lt_trans h k
/-- Two ascending lists of the same items are one. -/
theorem asc_uniq : ∀ (l m : List Prp), l.Pairwise LtP → m.Pairwise LtP → l.Perm m → l = m
  | [], m, _, _, h => (List.nil_perm.1 h).symm
  | a :: l, [], _, _, h => by have := h.length_eq; simp at this
  | a :: l, b :: m, hl, hm, h => by
    rw [List.pairwise_cons] at hl hm
    have ha : a ∈ b :: m := h.mem_iff.1 (List.mem_cons_self ..)
    have hb : b ∈ a :: l := h.mem_iff.2 (List.mem_cons_self ..)
    have e : a = b := by
      rcases List.mem_cons.1 ha with e | ha
      · exact e
      · rcases List.mem_cons.1 hb with e | hb
        · exact e.symm
        · exact absurd (ltP_trans (hl.1 b hb) (hm.1 a ha)) (ltP_irr a)
    subst e
    rw [asc_uniq l m hl.2 hm.2 ((List.perm_cons a).1 h)]
/-- One more, at its place. -/
def insP (p : Prp) : List Prp → List Prp
  | [] => [p]
  | x :: r => if Go.Op.bytesLess p.nm.toList x.nm.toList = true then p :: x :: r else x :: insP p r
theorem insP_perm (p : Prp) : ∀ l, (insP p l).Perm (p :: l)
  | [] => List.Perm.refl _
  | x :: r => by
    unfold insP
    split
    · exact List.Perm.refl _
    · exact ((insP_perm p r).cons x).trans (List.Perm.swap p x r)
theorem lt_total {a b : ByteArray} (h : ¬ a.data.toList < b.data.toList) (hn : a ≠ b) : b.data.toList < a.data.toList := by
  rcases Decidable.em (b.data.toList < a.data.toList) with k | k
  · exact k
  · exact absurd (ba_ext (List.le_antisymm (List.not_lt.1 k) (List.not_lt.1 h))) hn
theorem insP_asc (p : Prp) : ∀ l, l.Pairwise LtP → (∀ x ∈ l, x.nm ≠ p.nm) → (insP p l).Pairwise LtP
  | [], _, _ => by simp [insP]
  | x :: r, h, hd => by
    rw [List.pairwise_cons] at h
    unfold insP
    split
    · rename_i hl
      rw [less_iff] at hl
      rw [List.pairwise_cons]
      refine ⟨fun y hy => ?_, List.pairwise_cons.2 h⟩
      rcases List.mem_cons.1 hy with rfl | hy
      · exact hl
      · exact ltP_trans hl (h.1 y hy)
    · rename_i hl
      rw [less_iff] at hl
      rw [List.pairwise_cons]
      refine ⟨fun y hy => ?_, insP_asc p r h.2 (fun y hy => hd y (List.mem_cons_of_mem _ hy))⟩
      rcases List.mem_cons.1 ((insP_perm p r).mem_iff.1 hy) with rfl | hy
      · exact lt_total hl (fun e => hd x (List.mem_cons_self ..) e.symm)
      · exact h.1 y hy
/-- A sorted list whose names are not the same ascends. -/
theorem sortP_asc (l : List Prp) (hd : l.Pairwise (fun a b => a.nm ≠ b.nm)) : (sortP l).Pairwise LtP := by
  have hp := sortP_perm l
  have hd2 : (sortP l).Pairwise (fun a b => a.nm ≠ b.nm) := (hp.pairwise_iff (fun h => Ne.symm h)).2 hd
  have hs := (Go.Sort.insertionSort_holds ltP_swo l.toArray 0 l.length (Nat.zero_le _) (by simp)).2
  have hlen : (sortP l).length = l.length := hp.length_eq
  rw [List.pairwise_iff_getElem] at hd2 ⊢
  intro i j hi hj hij
  have h := hs i j (Nat.zero_le _) hij (by omega)
  have e : ∀ k (hk : k < (sortP l).length), (Sort.insertionSort (ltOf cfP) l.toArray 0 l.length)[k]! = (sortP l)[k] := by
    intro k hk
    have hk' : k < (Sort.insertionSort (ltOf cfP) l.toArray 0 l.length).size := by
      have : (sortP l).length = (Sort.insertionSort (ltOf cfP) l.toArray 0 l.length).size := by unfold sortP; exact Array.length_toList
      omega
    rw [getElem!_pos _ k hk']
    rfl
  rw [e j hj, e i hi, ltP_no] at h
  exact lt_total h (Ne.symm (hd2 i j hi hj hij))
end Go.Proofs.YteigbejidfkhpaaDoor

/- The reference's table, plain laws: insertion with duplicates told is the sorted list. -/
namespace Go.Proofs.YteigbejidfkhpaaDoor
open Go Go.RowKit
set_option linter.unusedSimpArgs false
set_option linter.unusedVariables false

theorem valid_asc : ∀ (ps : List Prp) (o : Option ByteArray), validL o ps = true → ps.Pairwise LtP ∧ ∀ q, o = some q → ∀ x ∈ ps, q.data.toList < x.nm.data.toList
  | [], _, _ => ⟨List.Pairwise.nil, fun _ _ _ h => by cases h⟩
  | p :: r, o, h => by
    have hr : validL (some p.nm) r = true := by
      cases o <;> (unfold validL at h; simp only [Bool.and_eq_true] at h; exact h.2)
    obtain ⟨h1, h2⟩ := valid_asc r _ hr
    refine ⟨List.pairwise_cons.2 ⟨fun x hx => h2 _ rfl x hx, h1⟩, fun q hq x hx => ?_⟩
    subst hq
    have hqp : q.data.toList < p.nm.data.toList := by
      unfold validL at h
      simp only [Bool.and_eq_true] at h
      exact (less_iff _ _).1 h.1.2
    rcases List.mem_cons.1 hx with rfl | hx
    · exact hqp
    · exact List.lt_trans hqp (h2 _ rfl x hx)
theorem validB_asc {ps : List Prp} (h : validB ps = true) : ps.Pairwise LtP ∧ ps.length ≤ 16 := by
  unfold validB at h
  simp only [Bool.and_eq_true, decide_eq_true_eq] at h
  exact ⟨(valid_asc ps none h.1).1, h.2⟩
theorem asc_ne {ps : List Prp} (h : ps.Pairwise LtP) : ps.Pairwise (fun a b => a.nm ≠ b.nm) := h.imp fun {a b} k e => by
  unfold LtP at k
  rw [e] at k
  exact List.lt_irrefl _ k
def freshB (p : Prp) (out : List Prp) : Bool := out.all fun x => decide (x.nm ≠ p.nm)
/-- The items, one by one: none where a name comes twice, or one more would follow on seventeen. -/
def insAll : List Prp → List Prp → Option (List Prp)
  | [], out => some out
  | p :: r, out => if freshB p out = true ∧ out.length ≤ 16 then insAll r (insP p out) else none
theorem fresh_of {p : Prp} {out : List Prp} (h : freshB p out = true) : ∀ x ∈ out, x.nm ≠ p.nm := fun x hx => of_decide_eq_true (List.all_eq_true.1 h x hx)
theorem mid_perm (p : Prp) (out r : List Prp) : (insP p out ++ r).Perm (out ++ p :: r) :=
  ((insP_perm p out).append_right r).trans List.perm_middle.symm
theorem insAll_some : ∀ (l out o : List Prp), insAll l out = some o → out.Pairwise LtP → o.Pairwise LtP ∧ o.Perm (out ++ l)
  | [], out, o, h, ha => by
    injection h with h
    subst h
    exact ⟨ha, by simp⟩
  | p :: r, out, o, h, ha => by
    unfold insAll at h
    split at h
    · rename_i hf
      obtain ⟨h1, h2⟩ := insAll_some r _ o h (insP_asc p out ha (fresh_of hf.1))
      exact ⟨h1, h2.trans (mid_perm p out r)⟩
    · cases h
theorem insAll_none : ∀ (l out : List Prp), insAll l out = none → out.Pairwise LtP → (out ++ l).Pairwise (fun a b => a.nm ≠ b.nm) → 17 < (out ++ l).length
  | [], out, h, _, _ => by cases h
  | p :: r, out, h, ha, hn => by
    unfold insAll at h
    by_cases hf : freshB p out = true ∧ out.length ≤ 16
    · rw [if_pos hf] at h
      have := insAll_none r _ h (insP_asc p out ha (fresh_of hf.1)) (((mid_perm p out r).pairwise_iff (fun h => Ne.symm h)).2 hn)
      rw [(mid_perm p out r).length_eq] at this
      exact this
    · have hfr : freshB p out = true := by
        unfold freshB
        rw [List.all_eq_true]
        intro x hx
        rw [List.pairwise_append] at hn
        exact decide_eq_true (hn.2.2 x hx p (List.mem_cons_self ..))
      have : ¬ out.length ≤ 16 := fun k => hf ⟨hfr, k⟩
      rw [List.length_append, List.length_cons]
      omega
theorem refTab_eq (l : List Prp) : ((insAll l []).bind fun o => if validB o = true then some o else none) = tabP l := by
  unfold tabP
  by_cases hv : validB (sortP l) = true
  · obtain ⟨h1, h2⟩ := validB_asc hv
    have hlen := (sortP_perm l).length_eq
    rw [if_pos ⟨by omega, hv⟩]
    have hn : l.Pairwise (fun a b => a.nm ≠ b.nm) := ((sortP_perm l).pairwise_iff (fun h => Ne.symm h)).1 (asc_ne h1)
    cases hi : insAll l [] with
    | none =>
      have := insAll_none l [] hi List.Pairwise.nil hn
      rw [List.nil_append] at this
      omega
    | some o =>
      obtain ⟨k1, k2⟩ := insAll_some l [] o hi List.Pairwise.nil
      have e : o = sortP l := asc_uniq _ _ k1 h1 (k2.trans (sortP_perm l).symm)
      rw [Option.bind_some, e, if_pos hv]
  · rw [if_neg (fun h => hv h.2)]
    cases hi : insAll l [] with
    | none => rfl
    | some o =>
      obtain ⟨k1, k2⟩ := insAll_some l [] o hi List.Pairwise.nil
      have k2' : o.Perm l := k2
      have hn : l.Pairwise (fun a b => a.nm ≠ b.nm) := (k2'.pairwise_iff (fun h => Ne.symm h)).1 (asc_ne k1)
      have e : o = sortP l := asc_uniq _ _ k1 (sortP_asc l hn) (k2'.trans (sortP_perm l).symm)
      rw [Option.bind_some, e, if_neg hv]
/-- What the reference's loop makes of bytes, behind the items that it has. -/
def refIn (s : ByteArray) (out : List Prp) : Option (List Prp) := (itemsP s.size s).bind fun l => insAll l out
theorem refIn_end {s : ByteArray} (h : s.size = 0) (out : List Prp) : refIn s out = some out := by
  unfold refIn
  rw [itemsP_nil h]
  rfl
theorem refIn_bad {s : ByteArray} (h : s.size ≠ 0) (hi : itemP s = none) (out : List Prp) : refIn s out = none := by
  unfold refIn
  rw [itemsP_step h, hi]
  rfl
theorem refIn_step {s r : ByteArray} {p : Prp} (h : s.size ≠ 0) (hi : itemP s = some (p, r)) (out : List Prp) : refIn s out = if freshB p out = true ∧ out.length ≤ 16 then refIn r (insP p out) else none := by
  unfold refIn
  rw [itemsP_step h, hi, Option.bind_some]
  dsimp only
  cases hl : itemsP r.size r with
  | none => simp
  | some l => rfl
theorem tableP_ref (s : ByteArray) : tableP s = (longP s).bind fun p => ((refIn p.1 []).bind fun o => if validB o = true then some o else none).map fun l => (l, p.2) := by
  unfold tableP
  cases longP s with
  | none => rfl
  | some p =>
    rw [Option.bind_some, Option.bind_some]
    congr 1
    unfold refIn
    cases itemsP p.1.size p.1 with
    | none => rfl
    | some l => rw [Option.bind_some, Option.bind_some, refTab_eq]
end Go.Proofs.YteigbejidfkhpaaDoor

/- The reference s reader. -/
namespace Go.Proofs.YteigbejidfkhpaaDoor
open Go Go.RowKit
set_option linter.unusedSimpArgs false
set_option linter.unusedVariables false

/-- Block R is a reader of s. -/
def RR (w : World) (R : Nat) (s : ByteArray) (bad : Bool) : Prop := w.heap[R]? = some (.cells #[.string s, .bool bad] 73 (0, 0))
theorem rr_facts {w : World} {R : Nat} {s : ByteArray} {bad : Bool} (h : RR w R s bad) :
    w.cell? ⟨R, 0, none⟩ = some (.string s) ∧ w.cell? ⟨R, 1, none⟩ = some (.bool bad) ∧ w.frozen? ⟨R, 0, none⟩ = false ∧ w.frozen? ⟨R, 1, none⟩ = false := by
  refine ⟨?_, ?_, ?_, ?_⟩ <;> simp [World.cell?, World.frozen?, show w.heap[R]? = _ from h]
theorem rr_set0 {w : World} {R : Nat} {s : ByteArray} {bad : Bool} (h : RR w R s bad) (s' : ByteArray) : RR (w.setCell ⟨R, 0, none⟩ (.string s')) R s' bad := by
  unfold RR at h ⊢
  simp [World.setCell, Array.getElem?_modify, h]
theorem rr_set1 {w : World} {R : Nat} {s : ByteArray} {bad : Bool} (h : RR w R s bad) (b' : Bool) : RR (w.setCell ⟨R, 1, none⟩ (.bool b')) R s b' := by
  unfold RR at h ⊢
  simp [World.setCell, Array.getElem?_modify, h]

/-- What Take answers, what is left. -/
def tkOk (n : Int) (s : ByteArray) (bad : Bool) : Bool := !bad && decide (0 ≤ n) && decide (n ≤ s.size)
def tkOut (n : Int) (s : ByteArray) (bad : Bool) : ByteArray := if tkOk n s bad = true then s.extract 0 n.toNat else ByteArray.empty
def tkS (n : Int) (s : ByteArray) (bad : Bool) : ByteArray := if tkOk n s bad = true then s.extract n.toNat s.size else s
def tkBad (n : Int) (s : ByteArray) (bad : Bool) : Bool := !tkOk n s bad

def TkPost (w : World) (R : Nat) (v : Value) (s : ByteArray) (bad : Bool) (e : Ending) (w' : World) : Prop :=
  e = .returned v ∧ RR w' R s bad ∧ w.grownBy w' (some R)

set_option maxRecDepth 1000000 in
set_option maxHeartbeats 2000000 in
theorem refTake_c {w : World} {R : Nat} {s : ByteArray} {bad : Bool} (h : RR w R s bad) (n : Int) :
    Calls Tryd.prog 68 #[.pointer (some ⟨R, 0, none⟩), .int .i64 n] w (TkPost w R (.string (tkOut n s bad)) (tkS n s bad) (tkBad n s bad)) := by
  obtain ⟨c0, c1, f0, f1⟩ := rr_facts h
  have H := Lib.hid h
  clear h
  cases bad with
  | true =>
    have e1 : tkOut n s true = ByteArray.empty := rfl
    have e2 : tkS n s true = s := rfl
    have e3 : tkBad n s true = true := rfl
    rw [e1, e2, e3]
    clear e1 e2 e3
    go_enter Tryd.func68, Tryd.ntmps68
    go_wp2
    go_ret
    exact ⟨rfl, rr_set1 H.out true, grownBy_set _ R 1 _⟩
  | false =>
    by_cases h0 : n < 0
    · have e0 : tkOk n s false = false := by unfold tkOk; simp; omega
      rw [tkOut, tkS, tkBad, e0]
      clear e0
      go_enter Tryd.func68, Tryd.ntmps68
      go_wp2
      go_ret
      exact ⟨rfl, rr_set1 H.out true, grownBy_set _ R 1 _⟩
    · have h0' : 0 ≤ n := by omega
      by_cases h1 : (s.size : Int) < n
      · have e0 : tkOk n s false = false := by unfold tkOk; simp; omega
        rw [tkOut, tkS, tkBad, e0]
        clear e0 h0
        go_enter Tryd.func68, Tryd.ntmps68
        go_wp2
        go_ret
        exact ⟨rfl, rr_set1 H.out true, grownBy_set _ R 1 _⟩
      · have e0 : tkOk n s false = true := by unfold tkOk; simp; omega
        have h1' : n ≤ s.size := by omega
        have ht : n.toNat ≤ s.size := by omega
        rw [tkOut, tkS, tkBad, e0, if_pos rfl, if_pos rfl]
        clear e0 h0 h1
        go_enter Tryd.func68, Tryd.ntmps68
        go_wp2
        go_ret
        exact ⟨rfl, rr_set0 H.out _, grownBy_set _ R 0 _⟩

theorem tkOut_size (n : Int) (s : ByteArray) (bad : Bool) (k : Nat) (h : n ≤ k) : (tkOut n s bad).size ≤ k := by
  unfold tkOut
  split
  · rw [ByteArray.size_extract]; omega
  · exact Nat.zero_le _

set_option maxRecDepth 1000000 in
set_option maxHeartbeats 2000000 in
theorem refNumber_c {w : World} {R : Nat} {s : ByteArray} {bad : Bool} (h : RR w R s bad) (n : Int) (hn : n ≤ 8) :
    Calls Tryd.prog 52 #[.pointer (some ⟨R, 0, none⟩), .int .i64 n] w (TkPost w R (.int .u64 (natB (tkOut n s bad).data.toList)) (tkS n s bad) (tkBad n s bad)) := by
  have HT := Lib.hid (refTake_c h n)
  have hx := tkOut_size n s bad 8 hn
  obtain ⟨x, hxe⟩ : ∃ x, x = tkOut n s bad := ⟨_, rfl⟩
  rw [← hxe] at HT hx
  rw [← hxe]
  clear hxe h
  have hsl : x.data.toList.length = x.size := by rw [Array.length_toList]; rfl
  have HSL := Lib.hid hsl
  clear hsl
  go_enter Tryd.func52, Tryd.ntmps52
  go_wp2_with fail
  refine (HT.out).mono ?_
  rintro e w1 ⟨rfl, r1, g1⟩
  have R1 := Lib.hid r1
  have G1 := Lib.hid g1
  clear r1 g1
  go_wp2
  go_loop [6, 7] (fun a i => ∃ k : Nat, k ≤ x.size ∧ i = .int .i64 k ∧ a = .int .u64 (natB (x.data.toList.take k))) (fun _ i => x.size - (intOf i).toNat)
  case atStart => exact ⟨0, Nat.zero_le _, rfl, rfl⟩
  case round =>
    obtain ⟨k, hk, rfl, rfl⟩ := hrel
    by_cases hlt : k < x.size
    · have hlt' : (k : Int) < x.size := by omega
      have hz : natB (x.data.toList.take k) < 256 ^ 7 := by
        refine Nat.lt_of_lt_of_le (natB_lt _) (Nat.pow_le_pow_right (by omega) ?_)
        rw [List.length_take]; omega
      have hb := UInt8.toNat_lt x[k]
      obtain ⟨z, hze⟩ : ∃ z, z = natB (x.data.toList.take k) := ⟨_, rfl⟩
      have hnx : natB (x.data.toList.take (k + 1)) = z * 256 + x[k].toNat := by
        rw [List.take_add_one, ba_at x k hlt, hze]
        exact natB_snoc _ _
      have HNX := Lib.hid hnx
      rw [← hze] at hz ⊢
      clear hnx hze
      have h256 : (256 : Nat) ^ 7 = 72057594037927936 := by decide
      rw [h256] at hz
      clear h256
      have hz1 : (z : Int) * 256 ≤ 18446744073709551360 := by omega
      have hz2 : (z : Int) * 256 + (x[k].toNat : Int) ≤ 18446744073709551615 := by omega
      have hz3 : (z : Int) < 72057594037927936 := by omega
      have hb3 : (x[k].toNat : Int) < 256 := by omega
      clear hz hb
      go_wp2

      go_round
      case rel => exact ⟨k + 1, by omega, by go_num, by rw [HNX.out, Int.natCast_add, Int.natCast_mul]; rfl⟩
      case measure => simp [intOf]; omega
    · have hd : x.data.toList.take k = x.data.toList := List.take_of_length_le (by have := HSL.out; omega)
      rw [hd]
      go_wp2
      go_ret
      exact ⟨rfl, R1.out, G1.out⟩


/-- Block R is a reader of what is left; none: something was not there. -/
def RX (w : World) (R : Nat) : Option ByteArray → Prop
  | some s => RR w R s false
  | none => ∃ s, RR w R s true
def outX {X : Type} (d : X) : Option (X × ByteArray) → X
  | some p => p.1
  | none => d
def leftX {X : Type} (o : Option (X × ByteArray)) : Option ByteArray := o.map (·.2)
def XPost {X : Type} (w : World) (R : Nat) (f : X → Value) (d : X) (o : Option (X × ByteArray)) (e : Ending) (w' : World) : Prop :=
  e = .returned (f (outX d o)) ∧ RX w' R (leftX o) ∧ w.grownBy w' (some R)
theorem xTake_c {w : World} {R : Nat} {o : Option ByteArray} (h : RX w R o) (n : Nat) (ni : Int) (hni : ni = n) :
    Calls Tryd.prog 68 #[.pointer (some ⟨R, 0, none⟩), .int .i64 ni] w (XPost w R Value.string ByteArray.empty (o.bind (takeP n))) := by
  subst hni
  cases o with
  | none =>
    obtain ⟨s, h⟩ := h
    refine (refTake_c h n).mono ?_
    rintro e w' ⟨he, hr, hg⟩
    exact ⟨he, ⟨s, hr⟩, hg⟩
  | some s =>
    refine (refTake_c h n).mono ?_
    rintro e w' ⟨he, hr, hg⟩
    show XPost w R Value.string ByteArray.empty (takeP n s) e w'
    by_cases hn : n ≤ s.size
    · have e0 : tkOk n s false = true := by unfold tkOk; simp; omega
      have e1 : takeP n s = some (s.extract 0 n, s.extract n s.size) := by unfold takeP; rw [if_pos hn]
      rw [tkOut, e0, if_pos rfl] at he
      rw [tkS, tkBad, e0, if_pos rfl] at hr
      rw [e1]
      exact ⟨he, hr, hg⟩
    · have e0 : tkOk n s false = false := by unfold tkOk; simp; omega
      have e1 : takeP n s = none := by unfold takeP; rw [if_neg hn]
      rw [tkOut, e0, if_neg (by decide)] at he
      rw [tkS, tkBad, e0, if_neg (by decide)] at hr
      rw [e1]
      exact ⟨he, ⟨s, hr⟩, hg⟩
theorem xNumber_c {w : World} {R : Nat} {o : Option ByteArray} (h : RX w R o) (n : Nat) (hn8 : n ≤ 8) (ni : Int) (hni : ni = n) :
    Calls Tryd.prog 52 #[.pointer (some ⟨R, 0, none⟩), .int .i64 ni] w (XPost w R (fun k : Nat => Value.int .u64 k) 0 (o.bind (numP n))) := by
  subst hni
  cases o with
  | none =>
    obtain ⟨s, h⟩ := h
    refine (refNumber_c h n (by omega)).mono ?_
    rintro e w' ⟨he, hr, hg⟩
    exact ⟨he, ⟨s, hr⟩, hg⟩
  | some s =>
    refine (refNumber_c h n (by omega)).mono ?_
    rintro e w' ⟨he, hr, hg⟩
    show XPost w R (fun k : Nat => Value.int .u64 k) 0 (numP n s) e w'
    by_cases hn : n ≤ s.size
    · have e0 : tkOk n s false = true := by unfold tkOk; simp; omega
      have e1 : numP n s = some (natB (s.extract 0 n).data.toList, s.extract n s.size) := by unfold numP takeP; rw [if_pos hn]; rfl
      rw [tkOut, e0, if_pos rfl] at he
      rw [tkS, tkBad, e0, if_pos rfl] at hr
      rw [e1]
      exact ⟨he, hr, hg⟩
    · have e0 : tkOk n s false = false := by unfold tkOk; simp; omega
      have e1 : numP n s = none := by unfold numP takeP; rw [if_neg hn]; rfl
      rw [tkOut, e0, if_neg (by decide)] at he
      rw [tkS, tkBad, e0, if_neg (by decide)] at hr
      rw [e1]
      exact ⟨he, ⟨s, hr⟩, hg⟩
theorem grown_trans {w w1 w2 : World} {R : Nat} (h1 : w.grownBy w1 (some R)) (h2 : w1.grownBy w2 (some R)) : w.grownBy w2 (some R) := h1.trans h2
end Go.Proofs.YteigbejidfkhpaaDoor

/- The reference's reader: short and long texts; numbers with their sign. -/
namespace Go.Proofs.YteigbejidfkhpaaDoor
open Go Go.RowKit
set_option linter.unusedSimpArgs false
set_option linter.unusedVariables false

theorem bind_num {o : Option ByteArray} {k n : Nat} {r : ByteArray} (h : o.bind (numP k) = some (n, r)) : n < 256 ^ k := by
  cases o with
  | none => cases h
  | some s => exact numP_lt h

theorem bind_shortP (o : Option ByteArray) : o.bind shortP = (o.bind (numP 1)).bind fun p => takeP p.1 p.2 := by cases o <;> rfl
set_option maxRecDepth 100000 in
set_option maxHeartbeats 1000000 in
theorem xShort_c {w : World} {R : Nat} {o : Option ByteArray} (h : RX w R o) :
    Calls Tryd.prog 53 #[.pointer (some ⟨R, 0, none⟩)] w (XPost w R Value.string ByteArray.empty (o.bind shortP)) := by
  have HN := Lib.hid (xNumber_c h 1 (by omega) 1 rfl)
  rw [bind_shortP]
  clear h
  cases hy : o.bind (numP 1) with
  | none =>
    rw [hy] at HN
    clear hy
    go_enter Tryd.func53, Tryd.ntmps53
    go_wp2_with fail
    refine (HN.out).mono ?_
    rintro e w1 ⟨rfl, r1, g1⟩
    have HT := Lib.hid (xTake_c (o := none) r1 0 0 rfl)
    have hz : outX 0 (none : Option (Nat × ByteArray)) = 0 := rfl
    clear r1
    go_wp2_with fail
    refine (HT.out).mono ?_
    rintro e w2 ⟨rfl, r2, g2⟩
    go_wp2_with fail
    go_ret
    exact ⟨rfl, r2, g1.trans g2⟩
  | some q =>
    obtain ⟨n, r⟩ := q
    have hn := bind_num hy
    rw [hy] at HN
    have hw : IntKind.i64.wrap (n : Int) = (n : Int) := IntWalk.i64_in _ (by omega)
    have hz : outX 0 (some (n, r)) = n := rfl
    clear hy hn
    go_enter Tryd.func53, Tryd.ntmps53
    go_wp2_with fail
    refine (HN.out).mono ?_
    rintro e w1 ⟨rfl, r1, g1⟩
    have HT := Lib.hid (xTake_c (o := some r) r1 n n rfl)
    clear r1
    go_wp2_with fail
    refine (HT.out).mono ?_
    rintro e w2 ⟨rfl, r2, g2⟩
    go_wp2_with fail
    go_ret
    exact ⟨rfl, r2, g1.trans g2⟩

theorem bind_longP (o : Option ByteArray) : o.bind longP = (o.bind (numP 4)).bind fun p => takeP p.1 p.2 := by cases o <;> rfl
set_option maxRecDepth 100000 in
set_option maxHeartbeats 1000000 in
theorem xLong_c {w : World} {R : Nat} {o : Option ByteArray} (h : RX w R o) :
    Calls Tryd.prog 54 #[.pointer (some ⟨R, 0, none⟩)] w (XPost w R Value.string ByteArray.empty (o.bind longP)) := by
  have HN := Lib.hid (xNumber_c h 4 (by omega) 4 rfl)
  rw [bind_longP]
  clear h
  cases hy : o.bind (numP 4) with
  | none =>
    rw [hy] at HN
    clear hy
    go_enter Tryd.func54, Tryd.ntmps54
    go_wp2_with fail
    refine (HN.out).mono ?_
    rintro e w1 ⟨rfl, r1, g1⟩
    have HT := Lib.hid (xTake_c (o := none) r1 0 0 rfl)
    have hz : outX 0 (none : Option (Nat × ByteArray)) = 0 := rfl
    clear r1
    go_wp2_with fail
    refine (HT.out).mono ?_
    rintro e w2 ⟨rfl, r2, g2⟩
    go_wp2_with fail
    go_ret
    exact ⟨rfl, r2, g1.trans g2⟩
  | some q =>
    obtain ⟨n, r⟩ := q
    have hn := bind_num hy
    rw [hy] at HN
    have hw : IntKind.i64.wrap (n : Int) = (n : Int) := IntWalk.i64_in _ (by omega)
    have hz : outX 0 (some (n, r)) = n := rfl
    clear hy hn
    go_enter Tryd.func54, Tryd.ntmps54
    go_wp2_with fail
    refine (HN.out).mono ?_
    rintro e w1 ⟨rfl, r1, g1⟩
    have HT := Lib.hid (xTake_c (o := some r) r1 n n rfl)
    clear r1
    go_wp2_with fail
    refine (HT.out).mono ?_
    rintro e w2 ⟨rfl, r2, g2⟩
    go_wp2_with fail
    go_ret
    exact ⟨rfl, r2, g1.trans g2⟩

set_option maxRecDepth 100000 in
set_option maxHeartbeats 1000000 in
theorem signed8_c {w : World} (n : Nat) (hn : n < 256) :
    Calls Tryd.prog 74 #[.int .u64 n, .int .u64 8] w fun e w' => e = .returned (.int .i64 (sgn 8 n)) ∧ w = w' := by
  have hw : IntKind.i64.wrap (n : Int) = (n : Int) := IntWalk.i64_in _ (by omega)
  by_cases h : n < 128
  · have e : sgn 8 n = (n : Int) := by unfold sgn; rw [if_pos h]
    have h' : (n : Int) < 128 := by omega
    rw [e]
    obtain ⟨N, hN⟩ : ∃ N : Int, N = (n : Int) := ⟨_, rfl⟩
    rw [← hN] at h' hw ⊢
    clear e h hn hN
    go_enter Tryd.func74, Tryd.ntmps74
    go_wp2_with fail
    go_ret
    exact ⟨rfl, rfl⟩
  · have e : sgn 8 n = (n : Int) - 256 := by unfold sgn; rw [if_neg h]; rfl
    have h' : (128 : Int) ≤ n := by omega
    have hs : IntKind.i64.wrap ((n : Int) - 256) = (n : Int) - 256 := IntWalk.i64_in _ (by omega)
    rw [e]
    obtain ⟨N, hN⟩ : ∃ N : Int, N = (n : Int) := ⟨_, rfl⟩
    rw [← hN] at h' hs hw ⊢
    obtain ⟨z, hz⟩ : ∃ z : Int, z = N - 256 := ⟨_, rfl⟩
    have hs2 : IntKind.i64.wrap (N - 256) = z := hs.trans hz.symm
    rw [← hz]
    clear e h hn hN hs hz
    go_enter Tryd.func74, Tryd.ntmps74
    go_upto_region 2 with fail
    clear h'
    go_wp2_with fail
    go_ret
    exact ⟨rfl, rfl⟩

set_option maxRecDepth 100000 in
set_option maxHeartbeats 1000000 in
theorem signed16_c {w : World} (n : Nat) (hn : n < 65536) :
    Calls Tryd.prog 74 #[.int .u64 n, .int .u64 16] w fun e w' => e = .returned (.int .i64 (sgn 16 n)) ∧ w = w' := by
  have hw : IntKind.i64.wrap (n : Int) = (n : Int) := IntWalk.i64_in _ (by omega)
  by_cases h : n < 32768
  · have e : sgn 16 n = (n : Int) := by unfold sgn; rw [if_pos h]
    have h' : (n : Int) < 32768 := by omega
    rw [e]
    obtain ⟨N, hN⟩ : ∃ N : Int, N = (n : Int) := ⟨_, rfl⟩
    rw [← hN] at h' hw ⊢
    clear e h hn hN
    go_enter Tryd.func74, Tryd.ntmps74
    go_wp2_with fail
    go_ret
    exact ⟨rfl, rfl⟩
  · have e : sgn 16 n = (n : Int) - 65536 := by unfold sgn; rw [if_neg h]; rfl
    have h' : (32768 : Int) ≤ n := by omega
    have hs : IntKind.i64.wrap ((n : Int) - 65536) = (n : Int) - 65536 := IntWalk.i64_in _ (by omega)
    rw [e]
    obtain ⟨N, hN⟩ : ∃ N : Int, N = (n : Int) := ⟨_, rfl⟩
    rw [← hN] at h' hs hw ⊢
    obtain ⟨z, hz⟩ : ∃ z : Int, z = N - 65536 := ⟨_, rfl⟩
    have hs2 : IntKind.i64.wrap (N - 65536) = z := hs.trans hz.symm
    rw [← hz]
    clear e h hn hN hs hz
    go_enter Tryd.func74, Tryd.ntmps74
    go_upto_region 2 with fail
    clear h'
    go_wp2_with fail
    go_ret
    exact ⟨rfl, rfl⟩

set_option maxRecDepth 100000 in
set_option maxHeartbeats 1000000 in
theorem signed32_c {w : World} (n : Nat) (hn : n < 4294967296) :
    Calls Tryd.prog 74 #[.int .u64 n, .int .u64 32] w fun e w' => e = .returned (.int .i64 (sgn 32 n)) ∧ w = w' := by
  have hw : IntKind.i64.wrap (n : Int) = (n : Int) := IntWalk.i64_in _ (by omega)
  by_cases h : n < 2147483648
  · have e : sgn 32 n = (n : Int) := by unfold sgn; rw [if_pos h]
    have h' : (n : Int) < 2147483648 := by omega
    rw [e]
    obtain ⟨N, hN⟩ : ∃ N : Int, N = (n : Int) := ⟨_, rfl⟩
    rw [← hN] at h' hw ⊢
    clear e h hn hN
    go_enter Tryd.func74, Tryd.ntmps74
    go_wp2_with fail
    go_ret
    exact ⟨rfl, rfl⟩
  · have e : sgn 32 n = (n : Int) - 4294967296 := by unfold sgn; rw [if_neg h]; rfl
    have h' : (2147483648 : Int) ≤ n := by omega
    have hs : IntKind.i64.wrap ((n : Int) - 4294967296) = (n : Int) - 4294967296 := IntWalk.i64_in _ (by omega)
    rw [e]
    obtain ⟨N, hN⟩ : ∃ N : Int, N = (n : Int) := ⟨_, rfl⟩
    rw [← hN] at h' hs hw ⊢
    obtain ⟨z, hz⟩ : ∃ z : Int, z = N - 4294967296 := ⟨_, rfl⟩
    have hs2 : IntKind.i64.wrap (N - 4294967296) = z := hs.trans hz.symm
    rw [← hz]
    clear e h hn hN hs hz
    go_enter Tryd.func74, Tryd.ntmps74
    go_upto_region 2 with fail
    clear h'
    go_wp2_with fail
    go_ret
    exact ⟨rfl, rfl⟩

set_option maxRecDepth 100000 in
set_option maxHeartbeats 1000000 in
theorem signed64_c {w : World} (n : Nat) (hn : n < 18446744073709551616) :
    Calls Tryd.prog 74 #[.int .u64 n, .int .u64 64] w fun e w' => e = .returned (.int .i64 (sgn 64 n)) ∧ w = w' := by
  have hw : IntKind.i64.wrap (n : Int) = sgn 64 n := by
    rw [IntKind.wrap_i64]
    unfold sgn
    rw [show (2 ^ (64 - 1) : Nat) = 9223372036854775808 from rfl, show (2 ^ 64 : Int) = 18446744073709551616 from rfl]
    split <;> omega
  obtain ⟨z, hz⟩ : ∃ z, z = sgn 64 n := ⟨_, rfl⟩
  rw [← hz] at hw ⊢
  obtain ⟨N, hN⟩ : ∃ N : Int, N = (n : Int) := ⟨_, rfl⟩
  rw [← hN] at hw ⊢
  clear hz hn hN
  go_enter Tryd.func74, Tryd.ntmps74
  go_wp2_with fail
  go_ret
  exact ⟨by first | rfl | (rw [← hw]; rfl) | (simp [hw]; done), rfl⟩
end Go.Proofs.YteigbejidfkhpaaDoor

/- Layer 15, the reference: numbers as bytes; a float of its bits. -/
namespace Go.Proofs.YteigbejidfkhpaaDoor
open Go Go.RowKit
set_option linter.unusedSimpArgs false
set_option linter.unusedVariables false

set_option maxRecDepth 100000 in
set_option maxHeartbeats 1000000 in
theorem refBig_c {w : World} {base : Nat} {v : Value} {l : List UInt8} (h : OB w base v l) (hB : base ≤ w.heap.size) (hl : l.length ≤ 70368744177664) (n : Nat) (hn : n < 18446744073709551616) (k : Nat) (hk : k ≤ 8) :
    Calls Tryd.prog 20 #[v, .int .u64 n, .int .i64 k] w fun e w' => ∃ v', e = .returned v' ∧ OB w' base v' (l ++ beB n k) ∧ Below base w w' := by
  have H := Lib.hid h
  clear h
  go_enter Tryd.func20, Tryd.ntmps20
  go_wp2
  go_loopw [0, 7] (fun x i wr => ∃ (m r : Nat) (pre : List UInt8), m + r = k ∧ i = .int .i64 m ∧ Hid (pre ++ beB n r = beB n k) ∧ Hid (OB wr base x (l ++ pre)) ∧ Below base w wr) (fun _ i _ => k - (intOf i).toNat)
  case atStart => exact ⟨0, k, [], by omega, rfl, Lib.hid rfl, by simpa [Lib.hid] using H, Below.refl _ _⟩
  case round =>
    obtain ⟨m, r, pre, hr, rfl, HP, O2, b2⟩ := hrel
    cases r with
    | zero =>
      have hm : k ≤ m := by omega
      have hm2 : m ≤ k := by omega
      clear hr
      go_wp2
      go_ret
      have := HP.out
      simp only [beB, List.append_nil] at this
      exact ⟨_, rfl, by rw [← this]; exact O2.out, b2⟩
    | succ r =>
      have hm : m < k := by omega
      have hpl : pre.length ≤ 8 := by
        have := congrArg List.length HP.out
        rw [List.length_append, beB_len, beB_len] at this
        omega
      have hs1 : (k : Int) - 1 - (m : Int) = (r : Int) := by omega
      clear hr
      go_wp2_with (at_builtin; refine app_b (w0 := w) (base := base) (l := l ++ pre) (m := [dig n r]) rfl (.tmp 13) (.tmp 23) rfl rfl rfl (O2.out.alloc _) (rb_dig wr _ _ (dig_val n r)) (b2.alloc (by have := b2.size; omega) _) (by have := b2.size; simp; omega) (by simp; omega) ?_; intro v4 w4 o4 b4 _ _; have O4 := Lib.hid o4; clear o4)
      go_roundw
      case rel => exact ⟨m + 1, r, pre ++ [dig n r], by omega, by go_num, Lib.hid (by have := HP.out; simpa [beB] using this), Lib.hid (by have := O4.out; rwa [List.append_assoc] at this), b4⟩
      case measure => simp [intOf]; omega

theorem from_c {w : World} (n : Nat) : Calls Tryd.prog 19 #[.int .u64 n] w fun e w' => e = .returned (.float .f64 n) ∧ w = w' := by
  have q := from64_run
  go_enter Tryd.func19, Tryd.ntmps19
  go_wp2_with fail
  go_ret
  exact ⟨rfl, rfl⟩
end Go.Proofs.YteigbejidfkhpaaDoor

/- The reference's sameness: floats, values, lists of properties. -/
namespace Go.Proofs.YteigbejidfkhpaaDoor
open Go Go.RowKit Go.Sort
set_option linter.unusedSimpArgs false
set_option linter.unusedVariables false

theorem str_ne {a b : ByteArray} (h : a ≠ b) : (a.toList == b.toList) = false := by
  refine beq_eq_false_iff_ne.2 fun e => h ?_
  rw [ByteArray.toList_eq, ByteArray.toList_eq] at e
  exact ba_ext e

set_option maxRecDepth 100000 in
theorem rawSame_c {w : World} (r r' : Nat) :
    Calls Tryd.prog 22 #[.float .f64 r, .float .f64 r'] w fun e w' => e = .returned (.bool (decide (r = r'))) ∧ w = w' := by
  have q := bits64_run
  by_cases h : r = r'
  · subst h
    rw [decide_eq_true rfl]
    go_enter Tryd.func22, Tryd.ntmps22
    go_wp2_with fail
    go_ret
    exact ⟨rfl, rfl⟩
  · have hb : ((r : Int) == (r' : Int)) = false := beq_eq_false_iff_ne.2 (by omega)
    rw [decide_eq_false h]
    clear h
    go_enter Tryd.func22, Tryd.ntmps22
    go_wp2_with fail
    go_ret
    exact ⟨rfl, rfl⟩

def valSame (k n : Int) (t : ByteArray) (r : Nat) (k' n' : Int) (t' : ByteArray) (r' : Nat) : Bool := decide (k = k' ∧ n = n' ∧ t = t' ∧ r = r')
set_option maxRecDepth 100000 in
set_option maxHeartbeats 1000000 in
theorem valSame_c {w : World} (k n : Int) (t : ByteArray) (r : Nat) (k' n' : Int) (t' : ByteArray) (r' : Nat) :
    Calls Tryd.prog 40 #[.agg #[.int .i64 k, .int .i64 n, .string t, .float .f64 r], .agg #[.int .i64 k', .int .i64 n', .string t', .float .f64 r']] w fun e w' => e = .returned (.bool (valSame k n t r k' n' t' r')) ∧ Below w.heap.size w w' := by
  have bW := ((Below.refl w.heap.size w).alloc (Nat.le_refl _) (.cells #[.int .i64 k, .int .i64 n, .string t, .float .f64 r] 46)).alloc (by show _ ≤ (w.heap.push _).size; simp) (.cells #[.int .i64 k', .int .i64 n', .string t', .float .f64 r'] 46)
  by_cases hk : k = k'
  · subst hk
    by_cases hn : n = n'
    · subst hn
      by_cases ht : t = t'
      · subst ht
        have e : valSame k n t r k n t r' = decide (r = r') := by unfold valSame; simp
        rw [e]
        clear e
        go_enter Tryd.func40, Tryd.ntmps40
        go_wp2_with fail
        refine (rawSame_c r r').mono ?_
        rintro e w1 ⟨rfl, rfl⟩
        go_wp2_with fail
        go_ret
        exact ⟨rfl, bW⟩
      · have e : valSame k n t r k n t' r' = false := by unfold valSame; simp [ht]
        have ht' := str_ne ht
        rw [e]
        clear e ht
        go_enter Tryd.func40, Tryd.ntmps40
        go_wp2_with fail
        go_ret
        exact ⟨rfl, bW⟩
    · have e : valSame k n t r k n' t' r' = false := by unfold valSame; simp [hn]
      have hn' : (n == n') = false := beq_eq_false_iff_ne.2 hn
      rw [e]
      clear e hn
      go_enter Tryd.func40, Tryd.ntmps40
      go_wp2_with fail
      go_ret
      exact ⟨rfl, bW⟩
  · have e : valSame k n t r k' n' t' r' = false := by unfold valSame; simp [hk]
    have hk' : (k == k') = false := beq_eq_false_iff_ne.2 hk
    rw [e]
    clear e hk
    go_enter Tryd.func40, Tryd.ntmps40
    go_wp2_with fail
    go_ret
    exact ⟨rfl, bW⟩
end Go.Proofs.YteigbejidfkhpaaDoor

/- The reference's floats: IsNaN, Canon; names. -/
namespace Go.Proofs.YteigbejidfkhpaaDoor
open Go Go.RowKit
set_option linter.unusedSimpArgs false
set_option linter.unusedVariables false

theorem nan_rung (r : Nat) : nanB r = decide (2047 * 2 ^ 52 < r % 2 ^ 63) := by
  show ((Ieee.double.read r).order (Ieee.double.read r) != some .eq) = _
  unfold Ieee.Format.read
  dsimp only
  rw [FloatL.D_sgn, FloatL.D_inf, FloatL.D_bin]
  by_cases h1 : r % 2 ^ 63 < 2 ^ 52
  · rw [if_pos h1, decide_eq_false (by omega)]
    simp [Ieee.Datum.order]
  · rw [if_neg h1]
    by_cases h2 : r % 2 ^ 63 < 2047 * 2 ^ 52
    · rw [if_pos h2, decide_eq_false (by omega)]
      simp [Ieee.Datum.order]
    · rw [if_neg h2]
      by_cases h3 : r % 2 ^ 63 = 2047 * 2 ^ 52
      · rw [if_pos h3, decide_eq_false (by omega)]
        simp [Ieee.Datum.order]
      · rw [if_neg h3, decide_eq_true (by omega)]
        rfl
theorem nan_bits (r : Nat) : nanB r = (decide (r / 2 ^ 52 % 2048 = 2047) && decide (r % 2 ^ 52 ≠ 0)) := by
  rw [nan_rung]
  by_cases h : 2047 * 2 ^ 52 < r % 2 ^ 63
  · rw [decide_eq_true h, decide_eq_true (by omega), decide_eq_true (by omega)]
    rfl
  · rw [decide_eq_false h]
    by_cases h1 : r / 2 ^ 52 % 2048 = 2047
    · rw [decide_eq_true h1, decide_eq_false (by omega)]
      rfl
    · rw [decide_eq_false h1]
      rfl
theorem and_mask (n k : Nat) (hn : n < 2 ^ 64) (hk : k ≤ 64) : bits BinOp.and IntKind.u64 (n : Int) ((2 ^ k - 1 : Nat) : Int) = ((n % 2 ^ k : Nat) : Int) := by
  have e64 : IntKind.u64.bits = 64 := rfl
  have hm : (BitVec.ofInt IntKind.u64.bits (n : Int) &&& BitVec.ofInt IntKind.u64.bits ((2 ^ k - 1 : Nat) : Int)).toNat = n % 2 ^ k := by
    have h2 : 2 ^ k ≤ 2 ^ 64 := Nat.pow_le_pow_right (by omega) hk
    have h3 : 0 < 2 ^ k := Nat.two_pow_pos k
    rw [BitVec.toNat_and, BitVec.ofInt_natCast, BitVec.ofInt_natCast, BitVec.toNat_ofNat, BitVec.toNat_ofNat, e64, Nat.mod_eq_of_lt hn, Nat.mod_eq_of_lt (by omega), Nat.and_two_pow_sub_one_eq_mod]
  show IntKind.u64.wrap (((BitVec.ofInt IntKind.u64.bits (n : Int) &&& BitVec.ofInt IntKind.u64.bits ((2 ^ k - 1 : Nat) : Int)).toNat : Nat) : Int) = _
  rw [hm]
  have h4 : n % 2 ^ k ≤ n := Nat.mod_le _ _
  show ((n % 2 ^ k : Nat) : Int) % 18446744073709551616 = _
  omega
set_option maxRecDepth 100000 in
set_option maxHeartbeats 1000000 in
theorem bits_c {w : World} (r : Nat) : Calls Tryd.prog 35 #[.float .f64 r] w fun e w' => e = .returned (.int .u64 r) ∧ w = w' := by
  have q := bits64_run
  go_enter Tryd.func35, Tryd.ntmps35
  go_wp2_with fail
  go_ret
  exact ⟨rfl, rfl⟩
set_option maxRecDepth 100000 in
set_option maxHeartbeats 1000000 in
theorem isNaN_c {w : World} (r : Nat) (hr : r < 18446744073709551616) : Calls Tryd.prog 58 #[.float .f64 r] w fun e w' => e = .returned (.bool (nanB r)) ∧ w = w' := by
  have a1 : bits BinOp.and IntKind.u64 ((r : Int) / 4503599627370496) 2047 = ((r / 4503599627370496 % 2048 : Nat) : Int) := and_mask (r / 4503599627370496) 11 (by omega) (by omega)
  have a2 : bits BinOp.and IntKind.u64 (r : Int) 4503599627370495 = ((r % 4503599627370496 : Nat) : Int) := and_mask r 52 hr (by omega)
  have hb := nan_bits r
  rw [show (2 ^ 52 : Nat) = 4503599627370496 from rfl] at hb
  obtain ⟨x, hx⟩ : ∃ x, x = r / 4503599627370496 % 2048 := ⟨_, rfl⟩
  obtain ⟨y, hy⟩ : ∃ y, y = r % 4503599627370496 := ⟨_, rfl⟩
  rw [← hx] at a1 hb
  rw [← hy] at a2 hb
  rw [hb]
  clear hx hy hb
  by_cases h1 : x = 2047
  · subst h1
    by_cases h2 : y = 0
    · subst h2
      go_enter Tryd.func58, Tryd.ntmps58
      go_wp2_with fail
      refine (bits_c r).mono ?_
      rintro e w1 ⟨rfl, rfl⟩
      go_wp2_with fail
      go_ret
      exact ⟨by first | rfl | (simp; done), rfl⟩
    · have hyb : ((y : Int) == 0) = false := beq_eq_false_iff_ne.2 (by omega)
      have hyc : ((y : Int) != 0) = true := bne_iff_ne.2 (by omega)
      have e : (decide (2047 = 2047) && decide (y ≠ 0)) = true := by rw [decide_eq_true h2]; rfl
      rw [e]
      clear e h2
      go_enter Tryd.func58, Tryd.ntmps58
      go_wp2_with fail
      refine (bits_c r).mono ?_
      rintro e w1 ⟨rfl, rfl⟩
      go_wp2_with fail
      go_ret
      exact ⟨by first | rfl | (simp; done), rfl⟩
  · have hxb : ((x : Int) == 2047) = false := beq_eq_false_iff_ne.2 (by omega)
    have e : (decide (x = 2047) && decide (y ≠ 0)) = false := by rw [decide_eq_false h1]; rfl
    rw [e]
    clear e h1
    go_enter Tryd.func58, Tryd.ntmps58
    go_wp2_with fail
    refine (bits_c r).mono ?_
    rintro e w1 ⟨rfl, rfl⟩
    go_wp2_with fail
    go_ret
    exact ⟨by first | rfl | (simp; done), rfl⟩
set_option maxRecDepth 100000 in
set_option maxHeartbeats 1000000 in
theorem refCanon_c {w : World} (r : Nat) (hr : r < 18446744073709551616) : Calls Tryd.prog 70 #[.float .f64 r] w fun e w' => e = .returned (.float .f64 (canonR r)) ∧ w = w' := by
  have h := isNaN_c (w := w) r hr
  clear hr
  cases hn : nanB r with
  | true =>
    have e : canonR r = 9221120237041090561 := by unfold canonR; rw [hn]; rfl
    rw [e]
    rw [hn] at h
    clear e hn
    go_enter Tryd.func70, Tryd.ntmps70
    go_wp2_with fail
    refine h.mono ?_
    rintro e w1 ⟨rfl, rfl⟩
    go_wp2_with fail
    refine (from_c 9221120237041090561).mono ?_
    rintro e w1 ⟨rfl, rfl⟩
    go_wp2_with fail
    go_ret
    exact ⟨rfl, rfl⟩
  | false =>
    have e : canonR r = r := by unfold canonR; rw [hn]; rfl
    rw [e]
    rw [hn] at h
    clear e hn
    go_enter Tryd.func70, Tryd.ntmps70
    go_wp2_with fail
    refine h.mono ?_
    rintro e w1 ⟨rfl, rfl⟩
    go_wp2_with fail
    go_ret
    exact ⟨rfl, rfl⟩
end Go.Proofs.YteigbejidfkhpaaDoor

/- The reference's Widen. -/
namespace Go.Proofs.YteigbejidfkhpaaDoor
open Go Go.RowKit
set_option linter.unusedSimpArgs false
set_option linter.unusedVariables false

theorem to64_nan2 {f : Nat} {s : Bool} {t : Nat} (h : Ieee.single.read f = .nan s t) (w : World) :
    ∃ b, (convert 95 41 (.float .f32 f)).run Tryd.prog w = .ok (.float .f64 b) w.drew ∧ nanB b = true ∧ b < 18446744073709551616 := by
  have h' : FloatKind.f32.decode f = .nan s t := h
  have u1 := Tryd.underlying41
  have u2 := Tryd.underlying95
  refine ⟨(Question.nanConv .f64 f).cut (w.tape w.drawn (.nanConv .f64 f)), ?_, ?_, ?_⟩
  · simp [convert, run_underlying u1, run_underlying u2, Conv.floatToFloat, h', Question.forced]
  · obtain ⟨a, b, hab⟩ := FloatL.nan_read (w.tape w.drawn (.nanConv .f64 f))
    have e : Ieee.double.read ((Question.nanConv .f64 f).cut (w.tape w.drawn (.nanConv .f64 f))) = .nan a b := hab
    show ((Ieee.double.read _).order (Ieee.double.read _) != some .eq) = true
    rw [e]
    rfl
  · generalize w.tape w.drawn (.nanConv .f64 f) = t
    show (t % 2) * 2 ^ 63 + 0x7ff0000000000000 + 1 + (t / 2) % (2 ^ 52 - 1) < 18446744073709551616
    omega
theorem to64_any2 (n : Nat) (w : World) : ∃ (b : Nat) (w1 : World), (convert 95 41 (.float .f32 n)).run Tryd.prog w = .ok (.float .f64 b) w1 ∧ (w1 = w ∨ w1 = w.drew) ∧ canonR b = widR n ∧ b < 18446744073709551616 := by
  have hw : ∀ d, Ieee.double.write d < 2 ^ 64 := fun d => Ieee.Format.write_lt Ieee.double d
  unfold widR widenE
  cases h : Ieee.single.read n with
  | number s m e => exact ⟨_, _, to64_num h w, .inl rfl, rfl, hw _⟩
  | infinity s => exact ⟨_, _, to64_inf h w, .inl rfl, rfl, hw _⟩
  | nan s t =>
    obtain ⟨b, h1, hn, hb⟩ := to64_nan2 h w
    refine ⟨b, _, h1, .inr rfl, ?_, hb⟩
    unfold canonR
    rw [hn]
    rfl
theorem from32_c {w : World} (n : Nat) : Calls Tryd.prog 87 #[.int .u32 n] w fun e w' => e = .returned (.float .f32 n) ∧ w = w' := by
  have q := from32_run
  go_enter Tryd.func87, Tryd.ntmps87
  go_wp2_with fail
  go_ret
  exact ⟨rfl, rfl⟩
set_option maxRecDepth 100000 in
theorem refWiden_c {w : World} (n : Nat) (ni : Int) (hni : ni = n) :
    Calls Tryd.prog 75 #[.int .u32 ni] w fun e w' => e = .returned (.float .f64 (widR n)) ∧ Below w.heap.size w w' := by
  subst hni
  obtain ⟨b, w1, hc, hw, hb, hlt⟩ := to64_any2 n w
  have HB := Lib.hid hb
  have HL := Lib.hid hlt
  have hW := Lib.hid (show Below w.heap.size w w1 by rcases hw with rfl | rfl; exact Below.refl _ _; exact (Below.refl _ _).drew)
  clear hb hw hlt
  go_enter Tryd.func75, Tryd.ntmps75
  go_wp2_with fail
  refine (from32_c n).mono ?_
  rintro e w2 ⟨rfl, rfl⟩
  go_wp2_with fail
  refine (refCanon_c b HL.out).mono ?_
  rintro e w2 ⟨rfl, rfl⟩
  go_wp2_with fail
  go_ret
  exact ⟨by first | rfl | (rw [HB.out]; rfl), hW.out⟩
end Go.Proofs.YteigbejidfkhpaaDoor

/- The reference's reader: the next value. -/
namespace Go.Proofs.YteigbejidfkhpaaDoor
open Go Go.RowKit
set_option linter.unusedSimpArgs false
set_option linter.unusedVariables false

def VPost (w : World) (R : Nat) (O : Option (Vl × ByteArray)) (e : Ending) (w' : World) : Prop :=
  ∃ v : Vl, e = .returned v.val ∧ (∀ p r, O = some (p, r) → v = p) ∧ RX w' R (leftX O) ∧ w.grownBy w' (some R)
theorem rr_below {w w1 : World} {R : Nat} {s : ByteArray} {b : Bool} (h : RR w R s b) (hb : Below w.heap.size w w1) : RR w1 R s b := by
  unfold RR at h ⊢
  rw [hb.block R (Array.getElem?_eq_some_iff.1 h).1]
  exact h
theorem rr_lt {w : World} {R : Nat} {s : ByteArray} {b : Bool} (h : RR w R s b) : R < w.heap.size := (Array.getElem?_eq_some_iff.1 h).1
theorem rx_lt {w : World} {R : Nat} {o : Option ByteArray} (h : RX w R o) : R < w.heap.size := by
  cases o with
  | none => obtain ⟨s, h⟩ := h; exact rr_lt h
  | some s => exact rr_lt h
theorem rx_below {w w1 : World} {R : Nat} {o : Option ByteArray} (h : RX w R o) (hb : Below w.heap.size w w1) : RX w1 R o := by
  cases o with
  | none => obtain ⟨s, h⟩ := h; exact ⟨s, rr_below h hb⟩
  | some s => exact rr_below h hb
theorem rx_other {w : World} {R n : Nat} {o : Option ByteArray} (h : RX w R o) (hn : R ≠ n) (j : Nat) (u : Value) : RX (w.setCell ⟨n, j, none⟩ u) R o := by
  cases o with
  | none => obtain ⟨s, h⟩ := h; exact ⟨s, (Below.heap_setCell w ⟨n, j, none⟩ u R hn).trans h⟩
  | some s => exact (Below.heap_setCell w ⟨n, j, none⟩ u R hn).trans h
theorem rx4 {w : World} {R n : Nat} {o : Option ByteArray} (hn : R < n) (h : RX w R o) (x y z u : Value) : RX (set4w w n x y z u) R o :=
  rx_other (rx_other (rx_other (rx_other h (by omega) 0 x) (by omega) 1 y) (by omega) 2 z) (by omega) 3 u
theorem rx_bad {w : World} {R : Nat} {o : Option ByteArray} (h : RX w R o) : ∃ (s : ByteArray) (b : Bool), RR w R s b := by
  cases o with
  | none => obtain ⟨s, h⟩ := h; exact ⟨s, true, h⟩
  | some s => exact ⟨s, false, h⟩
theorem left_map {X Y : Type} (f : X → Y) (y : Option (X × ByteArray)) : leftX (y.map fun q => (f q.1, q.2)) = leftX y := by cases y <;> rfl
theorem map_out {X Y : Type} {f : X → Y} {y : Option (X × ByteArray)} {d : X} : ∀ p r, (y.map fun q => (f q.1, q.2)) = some (p, r) → f (outX d y) = p := by
  intro p r h
  cases y with
  | none => cases h
  | some q => exact congrArg Prod.fst (Option.some.inj h)
theorem out_lt {k : Nat} {o : Option ByteArray} : outX 0 (o.bind (numP k)) < 256 ^ k := by
  cases hy : o.bind (numP k) with
  | none => exact Nat.pow_pos (by omega)
  | some q => obtain ⟨n, r⟩ := q; exact bind_num hy
theorem bind_val (o : Option ByteArray) : o.bind valP = (o.bind (takeP 1)).bind fun p => valQ p.1 p.2 := by cases o <;> rfl

set_option maxRecDepth 1000000 in
set_option maxHeartbeats 8000000 in
theorem xValue_c {w : World} {R : Nat} {o : Option ByteArray} (h : RX w R o) :
    Calls Tryd.prog 64 #[.pointer (some ⟨R, 0, none⟩)] w (VPost w R (o.bind valP)) := by
  have bA : Below w.heap.size w (w.alloc (.cells #[.int .i64 0, .int .i64 0, .string ByteArray.empty, .float .f64 0] 46)) := (Below.refl _ _).alloc (Nat.le_refl _) _
  have hT := xTake_c (rx_below h bA) 1 1 rfl
  have qs := store_float (P := Tryd.prog)
  have BA := Lib.hid bA
  have HG := Lib.hid (rx_lt h)
  rw [bind_val]
  have hnew : ∀ w1 : World, (w.alloc (.cells #[.int .i64 0, .int .i64 0, .string ByteArray.empty, .float .f64 0] 46)).grownBy w1 (some R) → w1.heap[w.heap.size]? = some (.cells #[.int .i64 0, .int .i64 0, .string ByteArray.empty, .float .f64 0] 46 (0, 0)) := fun w1 h1 => by
    rw [h1.block w.heap.size (by simp) (fun e => by injection e with e; have := HG.out; omega)]
    exact heap_alloc_new w _
  have HNW := Lib.hid hnew
  clear hnew h bA
  obtain ⟨y, hy⟩ : ∃ y, y = o.bind (takeP 1) := ⟨_, rfl⟩
  rw [← hy] at hT ⊢
  have HT := Lib.hid hT
  clear hy hT
  obtain ⟨x, hx⟩ : ∃ x, x = outX ByteArray.empty y := ⟨_, rfl⟩
  have hx2 := hx.symm
  have HX := Lib.hid hx
  clear hx
  by_cases c0 : x = ⟨#[116]⟩
  · obtain ⟨r, hyr⟩ : ∃ r, y = some (⟨#[116]⟩, r) := by
      cases y with
      | none => rw [HX.out] at c0; exact absurd (congrArg ByteArray.size c0) (by decide)
      | some q => obtain ⟨q1, r⟩ := q; rw [HX.out] at c0; exact ⟨r, by rw [← c0]; rfl⟩
    subst hyr
    rw [show ((some ((⟨#[116]⟩ : ByteArray), r) : Option (ByteArray × ByteArray)).bind fun p => valQ p.1 p.2) = (numP 1 r).map (fun q => ((⟨2, q.1, ByteArray.empty, 0⟩ : Vl), q.2)) from by show valQ ⟨#[116]⟩ r = _; unfold valQ; rw [if_pos rfl]]
    subst c0
    obtain ⟨y2, hy2⟩ : ∃ y2, y2 = numP 1 r := ⟨_, rfl⟩
    rw [← hy2]
    have HY := Lib.hid hy2
    clear HX hy2
    go_enter Tryd.func64, Tryd.ntmps64
    go_wp2_with fail
    refine (HT.out).mono ?_
    rintro e w1 ⟨rfl, r1, g1⟩
    have hN := xNumber_c (o := some r) r1 1 (by omega) 1 rfl
    have hlt := out_lt (k := 1) (o := some r)
    rw [show (some r).bind (numP 1) = numP 1 r from rfl] at hN hlt
    rw [← HY.out] at hN hlt
    obtain ⟨q, hq⟩ : ∃ q, q = outX 0 y2 := ⟨_, rfl⟩
    have hq2 := hq.symm
    have HQ := Lib.hid hq
    rw [← hq] at hlt
    have HLT := Lib.hid hlt
    have HN := Lib.hid hN
    have G1 := Lib.hid g1
    clear hN g1 r1 hq hlt
    have hw : IntKind.i64.wrap (q : Int) = (q : Int) := IntWalk.i64_in _ (by have := HLT.out; omega)
    go_wp2_with fail
    refine (HN.out).mono ?_
    rintro e w2 ⟨rfl, r2, g2⟩
    have R2 := Lib.hid r2
    have G2 := Lib.hid (G1.out.trans g2)
    clear r2 g2
    have HB := Lib.hid (HNW.out _ G2.out)
    have q0 : w2.cell? ⟨w.heap.size, 0, none⟩ = some (.int .i64 0) := by simp [World.cell?, HB.out]
    have q1 : w2.cell? ⟨w.heap.size, 1, none⟩ = some (.int .i64 0) := by simp [World.cell?, HB.out]
    have q2 : w2.cell? ⟨w.heap.size, 2, none⟩ = some (.string ByteArray.empty) := by simp [World.cell?, HB.out]
    have q3 : w2.cell? ⟨w.heap.size, 3, none⟩ = some (.float .f64 0) := by simp [World.cell?, HB.out]
    have f0 : w2.frozen? ⟨w.heap.size, 0, none⟩ = false := by simp [World.frozen?, HB.out]
    have f1 : w2.frozen? ⟨w.heap.size, 1, none⟩ = false := by simp [World.frozen?, HB.out]
    have f2 : w2.frozen? ⟨w.heap.size, 2, none⟩ = false := by simp [World.frozen?, HB.out]
    have f3 : w2.frozen? ⟨w.heap.size, 3, none⟩ = false := by simp [World.frozen?, HB.out]
    go_wp2_with fail
    refine value_end rfl rfl (cells4_at HB.out _ _ _ _) rfl ?_
    refine ⟨⟨2, q, ByteArray.empty, 0⟩, by first | rfl | (rw [HZ.out]; rfl), fun p r h => ?_, ?_, grown4 BA.out G2.out _ _ _ _⟩
    · rw [HQ.out]; exact map_out (d := 0) (f := fun q : Nat => (⟨2, q, ByteArray.empty, 0⟩ : Vl)) p r h
    · rw [left_map (fun q : Nat => (⟨2, q, ByteArray.empty, 0⟩ : Vl))]; exact rx4 HG.out R2.out _ _ _ _
  have b0 : (x.toList == [116]) = false := str_bne (l := [116]) c0
  by_cases c1 : x = ⟨#[98]⟩
  · obtain ⟨r, hyr⟩ : ∃ r, y = some (⟨#[98]⟩, r) := by
      cases y with
      | none => rw [HX.out] at c1; exact absurd (congrArg ByteArray.size c1) (by decide)
      | some q => obtain ⟨q1, r⟩ := q; rw [HX.out] at c1; exact ⟨r, by rw [← c1]; rfl⟩
    subst hyr
    rw [show ((some ((⟨#[98]⟩ : ByteArray), r) : Option (ByteArray × ByteArray)).bind fun p => valQ p.1 p.2) = (numP 1 r).map (fun q => ((⟨1, sgn 8 q.1, ByteArray.empty, 0⟩ : Vl), q.2)) from by show valQ ⟨#[98]⟩ r = _; unfold valQ; rw [if_neg (by decide), if_pos rfl]]
    subst c1
    obtain ⟨y2, hy2⟩ : ∃ y2, y2 = numP 1 r := ⟨_, rfl⟩
    rw [← hy2]
    have HY := Lib.hid hy2
    clear HX hy2 b0
    go_enter Tryd.func64, Tryd.ntmps64
    go_wp2_with fail
    refine (HT.out).mono ?_
    rintro e w1 ⟨rfl, r1, g1⟩
    have hN := xNumber_c (o := some r) r1 1 (by omega) 1 rfl
    have hlt := out_lt (k := 1) (o := some r)
    rw [show (some r).bind (numP 1) = numP 1 r from rfl] at hN hlt
    rw [← HY.out] at hN hlt
    obtain ⟨q, hq⟩ : ∃ q, q = outX 0 y2 := ⟨_, rfl⟩
    have hq2 := hq.symm
    have HQ := Lib.hid hq
    rw [← hq] at hlt
    have HLT := Lib.hid hlt
    have HN := Lib.hid hN
    have G1 := Lib.hid g1
    clear hN g1 r1 hq hlt
    go_wp2_with fail
    refine (HN.out).mono ?_
    rintro e w2 ⟨rfl, r2, g2⟩
    have R2 := Lib.hid r2
    have G2 := Lib.hid (G1.out.trans g2)
    clear r2 g2
    obtain ⟨z, hz⟩ : ∃ z, z = sgn 8 q := ⟨_, rfl⟩
    have HS := Lib.hid (signed8_c (w := w2) q (show q < 256 from HLT.out))
    rw [← hz] at HS
    have HZ := Lib.hid hz
    clear hz
    go_wp2_with fail
    refine (HS.out).mono ?_
    rintro e w3 ⟨rfl, rfl⟩
    have HB := Lib.hid (HNW.out _ G2.out)
    have q0 : w2.cell? ⟨w.heap.size, 0, none⟩ = some (.int .i64 0) := by simp [World.cell?, HB.out]
    have q1 : w2.cell? ⟨w.heap.size, 1, none⟩ = some (.int .i64 0) := by simp [World.cell?, HB.out]
    have q2 : w2.cell? ⟨w.heap.size, 2, none⟩ = some (.string ByteArray.empty) := by simp [World.cell?, HB.out]
    have q3 : w2.cell? ⟨w.heap.size, 3, none⟩ = some (.float .f64 0) := by simp [World.cell?, HB.out]
    have f0 : w2.frozen? ⟨w.heap.size, 0, none⟩ = false := by simp [World.frozen?, HB.out]
    have f1 : w2.frozen? ⟨w.heap.size, 1, none⟩ = false := by simp [World.frozen?, HB.out]
    have f2 : w2.frozen? ⟨w.heap.size, 2, none⟩ = false := by simp [World.frozen?, HB.out]
    have f3 : w2.frozen? ⟨w.heap.size, 3, none⟩ = false := by simp [World.frozen?, HB.out]
    go_wp2_with fail
    refine value_end rfl rfl (cells4_at HB.out _ _ _ _) rfl ?_
    refine ⟨⟨1, sgn 8 q, ByteArray.empty, 0⟩, by first | rfl | (rw [HZ.out]; rfl), fun p r h => ?_, ?_, grown4 BA.out G2.out _ _ _ _⟩
    · rw [HQ.out]; exact map_out (d := 0) (f := fun q : Nat => (⟨1, sgn 8 q, ByteArray.empty, 0⟩ : Vl)) p r h
    · rw [left_map (fun q : Nat => (⟨1, sgn 8 q, ByteArray.empty, 0⟩ : Vl))]; exact rx4 HG.out R2.out _ _ _ _
  have b1 : (x.toList == [98]) = false := str_bne (l := [98]) c1
  by_cases c2 : x = ⟨#[115]⟩
  · obtain ⟨r, hyr⟩ : ∃ r, y = some (⟨#[115]⟩, r) := by
      cases y with
      | none => rw [HX.out] at c2; exact absurd (congrArg ByteArray.size c2) (by decide)
      | some q => obtain ⟨q1, r⟩ := q; rw [HX.out] at c2; exact ⟨r, by rw [← c2]; rfl⟩
    subst hyr
    rw [show ((some ((⟨#[115]⟩ : ByteArray), r) : Option (ByteArray × ByteArray)).bind fun p => valQ p.1 p.2) = (numP 2 r).map (fun q => ((⟨1, sgn 16 q.1, ByteArray.empty, 0⟩ : Vl), q.2)) from by show valQ ⟨#[115]⟩ r = _; unfold valQ; rw [if_neg (by decide), if_neg (by decide), if_pos rfl]]
    subst c2
    obtain ⟨y2, hy2⟩ : ∃ y2, y2 = numP 2 r := ⟨_, rfl⟩
    rw [← hy2]
    have HY := Lib.hid hy2
    clear HX hy2 b0 b1
    go_enter Tryd.func64, Tryd.ntmps64
    go_wp2_with fail
    refine (HT.out).mono ?_
    rintro e w1 ⟨rfl, r1, g1⟩
    have hN := xNumber_c (o := some r) r1 2 (by omega) 2 rfl
    have hlt := out_lt (k := 2) (o := some r)
    rw [show (some r).bind (numP 2) = numP 2 r from rfl] at hN hlt
    rw [← HY.out] at hN hlt
    obtain ⟨q, hq⟩ : ∃ q, q = outX 0 y2 := ⟨_, rfl⟩
    have hq2 := hq.symm
    have HQ := Lib.hid hq
    rw [← hq] at hlt
    have HLT := Lib.hid hlt
    have HN := Lib.hid hN
    have G1 := Lib.hid g1
    clear hN g1 r1 hq hlt
    go_wp2_with fail
    refine (HN.out).mono ?_
    rintro e w2 ⟨rfl, r2, g2⟩
    have R2 := Lib.hid r2
    have G2 := Lib.hid (G1.out.trans g2)
    clear r2 g2
    obtain ⟨z, hz⟩ : ∃ z, z = sgn 16 q := ⟨_, rfl⟩
    have HS := Lib.hid (signed16_c (w := w2) q (show q < 65536 from HLT.out))
    rw [← hz] at HS
    have HZ := Lib.hid hz
    clear hz
    go_wp2_with fail
    refine (HS.out).mono ?_
    rintro e w3 ⟨rfl, rfl⟩
    have HB := Lib.hid (HNW.out _ G2.out)
    have q0 : w2.cell? ⟨w.heap.size, 0, none⟩ = some (.int .i64 0) := by simp [World.cell?, HB.out]
    have q1 : w2.cell? ⟨w.heap.size, 1, none⟩ = some (.int .i64 0) := by simp [World.cell?, HB.out]
    have q2 : w2.cell? ⟨w.heap.size, 2, none⟩ = some (.string ByteArray.empty) := by simp [World.cell?, HB.out]
    have q3 : w2.cell? ⟨w.heap.size, 3, none⟩ = some (.float .f64 0) := by simp [World.cell?, HB.out]
    have f0 : w2.frozen? ⟨w.heap.size, 0, none⟩ = false := by simp [World.frozen?, HB.out]
    have f1 : w2.frozen? ⟨w.heap.size, 1, none⟩ = false := by simp [World.frozen?, HB.out]
    have f2 : w2.frozen? ⟨w.heap.size, 2, none⟩ = false := by simp [World.frozen?, HB.out]
    have f3 : w2.frozen? ⟨w.heap.size, 3, none⟩ = false := by simp [World.frozen?, HB.out]
    go_wp2_with fail
    refine value_end rfl rfl (cells4_at HB.out _ _ _ _) rfl ?_
    refine ⟨⟨1, sgn 16 q, ByteArray.empty, 0⟩, by first | rfl | (rw [HZ.out]; rfl), fun p r h => ?_, ?_, grown4 BA.out G2.out _ _ _ _⟩
    · rw [HQ.out]; exact map_out (d := 0) (f := fun q : Nat => (⟨1, sgn 16 q, ByteArray.empty, 0⟩ : Vl)) p r h
    · rw [left_map (fun q : Nat => (⟨1, sgn 16 q, ByteArray.empty, 0⟩ : Vl))]; exact rx4 HG.out R2.out _ _ _ _
  have b2 : (x.toList == [115]) = false := str_bne (l := [115]) c2
  by_cases c3 : x = ⟨#[73]⟩
  · obtain ⟨r, hyr⟩ : ∃ r, y = some (⟨#[73]⟩, r) := by
      cases y with
      | none => rw [HX.out] at c3; exact absurd (congrArg ByteArray.size c3) (by decide)
      | some q => obtain ⟨q1, r⟩ := q; rw [HX.out] at c3; exact ⟨r, by rw [← c3]; rfl⟩
    subst hyr
    rw [show ((some ((⟨#[73]⟩ : ByteArray), r) : Option (ByteArray × ByteArray)).bind fun p => valQ p.1 p.2) = (numP 4 r).map (fun q => ((⟨1, sgn 32 q.1, ByteArray.empty, 0⟩ : Vl), q.2)) from by show valQ ⟨#[73]⟩ r = _; unfold valQ; rw [if_neg (by decide), if_neg (by decide), if_neg (by decide), if_pos rfl]]
    subst c3
    obtain ⟨y2, hy2⟩ : ∃ y2, y2 = numP 4 r := ⟨_, rfl⟩
    rw [← hy2]
    have HY := Lib.hid hy2
    clear HX hy2 b0 b1 b2
    go_enter Tryd.func64, Tryd.ntmps64
    go_wp2_with fail
    refine (HT.out).mono ?_
    rintro e w1 ⟨rfl, r1, g1⟩
    have hN := xNumber_c (o := some r) r1 4 (by omega) 4 rfl
    have hlt := out_lt (k := 4) (o := some r)
    rw [show (some r).bind (numP 4) = numP 4 r from rfl] at hN hlt
    rw [← HY.out] at hN hlt
    obtain ⟨q, hq⟩ : ∃ q, q = outX 0 y2 := ⟨_, rfl⟩
    have hq2 := hq.symm
    have HQ := Lib.hid hq
    rw [← hq] at hlt
    have HLT := Lib.hid hlt
    have HN := Lib.hid hN
    have G1 := Lib.hid g1
    clear hN g1 r1 hq hlt
    go_wp2_with fail
    refine (HN.out).mono ?_
    rintro e w2 ⟨rfl, r2, g2⟩
    have R2 := Lib.hid r2
    have G2 := Lib.hid (G1.out.trans g2)
    clear r2 g2
    obtain ⟨z, hz⟩ : ∃ z, z = sgn 32 q := ⟨_, rfl⟩
    have HS := Lib.hid (signed32_c (w := w2) q (show q < 4294967296 from HLT.out))
    rw [← hz] at HS
    have HZ := Lib.hid hz
    clear hz
    go_wp2_with fail
    refine (HS.out).mono ?_
    rintro e w3 ⟨rfl, rfl⟩
    have HB := Lib.hid (HNW.out _ G2.out)
    have q0 : w2.cell? ⟨w.heap.size, 0, none⟩ = some (.int .i64 0) := by simp [World.cell?, HB.out]
    have q1 : w2.cell? ⟨w.heap.size, 1, none⟩ = some (.int .i64 0) := by simp [World.cell?, HB.out]
    have q2 : w2.cell? ⟨w.heap.size, 2, none⟩ = some (.string ByteArray.empty) := by simp [World.cell?, HB.out]
    have q3 : w2.cell? ⟨w.heap.size, 3, none⟩ = some (.float .f64 0) := by simp [World.cell?, HB.out]
    have f0 : w2.frozen? ⟨w.heap.size, 0, none⟩ = false := by simp [World.frozen?, HB.out]
    have f1 : w2.frozen? ⟨w.heap.size, 1, none⟩ = false := by simp [World.frozen?, HB.out]
    have f2 : w2.frozen? ⟨w.heap.size, 2, none⟩ = false := by simp [World.frozen?, HB.out]
    have f3 : w2.frozen? ⟨w.heap.size, 3, none⟩ = false := by simp [World.frozen?, HB.out]
    go_wp2_with fail
    refine value_end rfl rfl (cells4_at HB.out _ _ _ _) rfl ?_
    refine ⟨⟨1, sgn 32 q, ByteArray.empty, 0⟩, by first | rfl | (rw [HZ.out]; rfl), fun p r h => ?_, ?_, grown4 BA.out G2.out _ _ _ _⟩
    · rw [HQ.out]; exact map_out (d := 0) (f := fun q : Nat => (⟨1, sgn 32 q, ByteArray.empty, 0⟩ : Vl)) p r h
    · rw [left_map (fun q : Nat => (⟨1, sgn 32 q, ByteArray.empty, 0⟩ : Vl))]; exact rx4 HG.out R2.out _ _ _ _
  have b3 : (x.toList == [73]) = false := str_bne (l := [73]) c3
  by_cases c4 : x = ⟨#[108]⟩
  · obtain ⟨r, hyr⟩ : ∃ r, y = some (⟨#[108]⟩, r) := by
      cases y with
      | none => rw [HX.out] at c4; exact absurd (congrArg ByteArray.size c4) (by decide)
      | some q => obtain ⟨q1, r⟩ := q; rw [HX.out] at c4; exact ⟨r, by rw [← c4]; rfl⟩
    subst hyr
    rw [show ((some ((⟨#[108]⟩ : ByteArray), r) : Option (ByteArray × ByteArray)).bind fun p => valQ p.1 p.2) = (numP 8 r).map (fun q => ((⟨1, sgn 64 q.1, ByteArray.empty, 0⟩ : Vl), q.2)) from by show valQ ⟨#[108]⟩ r = _; unfold valQ; rw [if_neg (by decide), if_neg (by decide), if_neg (by decide), if_neg (by decide), if_pos rfl]]
    subst c4
    obtain ⟨y2, hy2⟩ : ∃ y2, y2 = numP 8 r := ⟨_, rfl⟩
    rw [← hy2]
    have HY := Lib.hid hy2
    clear HX hy2 b0 b1 b2 b3
    go_enter Tryd.func64, Tryd.ntmps64
    go_wp2_with fail
    refine (HT.out).mono ?_
    rintro e w1 ⟨rfl, r1, g1⟩
    have hN := xNumber_c (o := some r) r1 8 (by omega) 8 rfl
    have hlt := out_lt (k := 8) (o := some r)
    rw [show (some r).bind (numP 8) = numP 8 r from rfl] at hN hlt
    rw [← HY.out] at hN hlt
    obtain ⟨q, hq⟩ : ∃ q, q = outX 0 y2 := ⟨_, rfl⟩
    have hq2 := hq.symm
    have HQ := Lib.hid hq
    rw [← hq] at hlt
    have HLT := Lib.hid hlt
    have HN := Lib.hid hN
    have G1 := Lib.hid g1
    clear hN g1 r1 hq hlt
    go_wp2_with fail
    refine (HN.out).mono ?_
    rintro e w2 ⟨rfl, r2, g2⟩
    have R2 := Lib.hid r2
    have G2 := Lib.hid (G1.out.trans g2)
    clear r2 g2
    obtain ⟨z, hz⟩ : ∃ z, z = sgn 64 q := ⟨_, rfl⟩
    have HS := Lib.hid (signed64_c (w := w2) q (show q < 18446744073709551616 from HLT.out))
    rw [← hz] at HS
    have HZ := Lib.hid hz
    clear hz
    go_wp2_with fail
    refine (HS.out).mono ?_
    rintro e w3 ⟨rfl, rfl⟩
    have HB := Lib.hid (HNW.out _ G2.out)
    have q0 : w2.cell? ⟨w.heap.size, 0, none⟩ = some (.int .i64 0) := by simp [World.cell?, HB.out]
    have q1 : w2.cell? ⟨w.heap.size, 1, none⟩ = some (.int .i64 0) := by simp [World.cell?, HB.out]
    have q2 : w2.cell? ⟨w.heap.size, 2, none⟩ = some (.string ByteArray.empty) := by simp [World.cell?, HB.out]
    have q3 : w2.cell? ⟨w.heap.size, 3, none⟩ = some (.float .f64 0) := by simp [World.cell?, HB.out]
    have f0 : w2.frozen? ⟨w.heap.size, 0, none⟩ = false := by simp [World.frozen?, HB.out]
    have f1 : w2.frozen? ⟨w.heap.size, 1, none⟩ = false := by simp [World.frozen?, HB.out]
    have f2 : w2.frozen? ⟨w.heap.size, 2, none⟩ = false := by simp [World.frozen?, HB.out]
    have f3 : w2.frozen? ⟨w.heap.size, 3, none⟩ = false := by simp [World.frozen?, HB.out]
    go_wp2_with fail
    refine value_end rfl rfl (cells4_at HB.out _ _ _ _) rfl ?_
    refine ⟨⟨1, sgn 64 q, ByteArray.empty, 0⟩, by first | rfl | (rw [HZ.out]; rfl), fun p r h => ?_, ?_, grown4 BA.out G2.out _ _ _ _⟩
    · rw [HQ.out]; exact map_out (d := 0) (f := fun q : Nat => (⟨1, sgn 64 q, ByteArray.empty, 0⟩ : Vl)) p r h
    · rw [left_map (fun q : Nat => (⟨1, sgn 64 q, ByteArray.empty, 0⟩ : Vl))]; exact rx4 HG.out R2.out _ _ _ _
  have b4 : (x.toList == [108]) = false := str_bne (l := [108]) c4
  by_cases c5 : x = ⟨#[102]⟩
  · obtain ⟨r, hyr⟩ : ∃ r, y = some (⟨#[102]⟩, r) := by
      cases y with
      | none => rw [HX.out] at c5; exact absurd (congrArg ByteArray.size c5) (by decide)
      | some q => obtain ⟨q1, r⟩ := q; rw [HX.out] at c5; exact ⟨r, by rw [← c5]; rfl⟩
    subst hyr
    rw [show ((some ((⟨#[102]⟩ : ByteArray), r) : Option (ByteArray × ByteArray)).bind fun p => valQ p.1 p.2) = (numP 4 r).map (fun q => ((⟨4, 0, ByteArray.empty, widR q.1⟩ : Vl), q.2)) from by show valQ ⟨#[102]⟩ r = _; unfold valQ; rw [if_neg (by decide), if_neg (by decide), if_neg (by decide), if_neg (by decide), if_neg (by decide), if_pos rfl]]
    subst c5
    obtain ⟨y2, hy2⟩ : ∃ y2, y2 = numP 4 r := ⟨_, rfl⟩
    rw [← hy2]
    have HY := Lib.hid hy2
    clear HX hy2 b0 b1 b2 b3 b4
    go_enter Tryd.func64, Tryd.ntmps64
    go_wp2_with fail
    refine (HT.out).mono ?_
    rintro e w1 ⟨rfl, r1, g1⟩
    have hN := xNumber_c (o := some r) r1 4 (by omega) 4 rfl
    have hlt := out_lt (k := 4) (o := some r)
    rw [show (some r).bind (numP 4) = numP 4 r from rfl] at hN hlt
    rw [← HY.out] at hN hlt
    obtain ⟨q, hq⟩ : ∃ q, q = outX 0 y2 := ⟨_, rfl⟩
    have hq2 := hq.symm
    have HQ := Lib.hid hq
    rw [← hq] at hlt
    have HLT := Lib.hid hlt
    have HN := Lib.hid hN
    have G1 := Lib.hid g1
    clear hN g1 r1 hq hlt
    have hw : IntKind.u32.wrap (q : Int) = (q : Int) := IntWalk.u32_in _ (by have := HLT.out; omega)
    go_wp2_with fail
    refine (HN.out).mono ?_
    rintro e w2 ⟨rfl, r2, g2⟩
    have R2 := Lib.hid r2
    have G2 := Lib.hid (G1.out.trans g2)
    clear r2 g2
    go_wp2_with fail
    refine (refWiden_c q _ (by first | rfl | exact hw)).mono ?_
    rintro e w3 ⟨rfl, b3⟩
    replace R2 := Lib.hid (rx_below R2.out b3)
    replace G2 := Lib.hid (G2.out.trans (grownBy_below b3 _))
    clear b3
    have HB := Lib.hid (HNW.out _ G2.out)
    have q0 : w3.cell? ⟨w.heap.size, 0, none⟩ = some (.int .i64 0) := by simp [World.cell?, HB.out]
    have q1 : w3.cell? ⟨w.heap.size, 1, none⟩ = some (.int .i64 0) := by simp [World.cell?, HB.out]
    have q2 : w3.cell? ⟨w.heap.size, 2, none⟩ = some (.string ByteArray.empty) := by simp [World.cell?, HB.out]
    have q3 : w3.cell? ⟨w.heap.size, 3, none⟩ = some (.float .f64 0) := by simp [World.cell?, HB.out]
    have f0 : w3.frozen? ⟨w.heap.size, 0, none⟩ = false := by simp [World.frozen?, HB.out]
    have f1 : w3.frozen? ⟨w.heap.size, 1, none⟩ = false := by simp [World.frozen?, HB.out]
    have f2 : w3.frozen? ⟨w.heap.size, 2, none⟩ = false := by simp [World.frozen?, HB.out]
    have f3 : w3.frozen? ⟨w.heap.size, 3, none⟩ = false := by simp [World.frozen?, HB.out]
    go_wp2_with fail
    refine value_end rfl rfl (cells4_at HB.out _ _ _ _) rfl ?_
    refine ⟨⟨4, 0, ByteArray.empty, widR q⟩, by first | rfl | (rw [HZ.out]; rfl), fun p r h => ?_, ?_, grown4 BA.out G2.out _ _ _ _⟩
    · rw [HQ.out]; exact map_out (d := 0) (f := fun q : Nat => (⟨4, 0, ByteArray.empty, widR q⟩ : Vl)) p r h
    · rw [left_map (fun q : Nat => (⟨4, 0, ByteArray.empty, widR q⟩ : Vl))]; exact rx4 HG.out R2.out _ _ _ _
  have b5 : (x.toList == [102]) = false := str_bne (l := [102]) c5
  by_cases c6 : x = ⟨#[100]⟩
  · obtain ⟨r, hyr⟩ : ∃ r, y = some (⟨#[100]⟩, r) := by
      cases y with
      | none => rw [HX.out] at c6; exact absurd (congrArg ByteArray.size c6) (by decide)
      | some q => obtain ⟨q1, r⟩ := q; rw [HX.out] at c6; exact ⟨r, by rw [← c6]; rfl⟩
    subst hyr
    rw [show ((some ((⟨#[100]⟩ : ByteArray), r) : Option (ByteArray × ByteArray)).bind fun p => valQ p.1 p.2) = (numP 8 r).map (fun q => ((⟨4, 0, ByteArray.empty, canonR q.1⟩ : Vl), q.2)) from by show valQ ⟨#[100]⟩ r = _; unfold valQ; rw [if_neg (by decide), if_neg (by decide), if_neg (by decide), if_neg (by decide), if_neg (by decide), if_neg (by decide), if_pos rfl]]
    subst c6
    obtain ⟨y2, hy2⟩ : ∃ y2, y2 = numP 8 r := ⟨_, rfl⟩
    rw [← hy2]
    have HY := Lib.hid hy2
    clear HX hy2 b0 b1 b2 b3 b4 b5
    go_enter Tryd.func64, Tryd.ntmps64
    go_wp2_with fail
    refine (HT.out).mono ?_
    rintro e w1 ⟨rfl, r1, g1⟩
    have hN := xNumber_c (o := some r) r1 8 (by omega) 8 rfl
    have hlt := out_lt (k := 8) (o := some r)
    rw [show (some r).bind (numP 8) = numP 8 r from rfl] at hN hlt
    rw [← HY.out] at hN hlt
    obtain ⟨q, hq⟩ : ∃ q, q = outX 0 y2 := ⟨_, rfl⟩
    have hq2 := hq.symm
    have HQ := Lib.hid hq
    rw [← hq] at hlt
    have HLT := Lib.hid hlt
    have HN := Lib.hid hN
    have G1 := Lib.hid g1
    clear hN g1 r1 hq hlt
    go_wp2_with fail
    refine (HN.out).mono ?_
    rintro e w2 ⟨rfl, r2, g2⟩
    have R2 := Lib.hid r2
    have G2 := Lib.hid (G1.out.trans g2)
    clear r2 g2
    go_wp2_with fail
    refine (from_c q).mono ?_
    rintro e w3 ⟨rfl, rfl⟩
    go_wp2_with fail
    refine (refCanon_c q HLT.out).mono ?_
    rintro e w3 ⟨rfl, rfl⟩
    have HB := Lib.hid (HNW.out _ G2.out)
    have q0 : w2.cell? ⟨w.heap.size, 0, none⟩ = some (.int .i64 0) := by simp [World.cell?, HB.out]
    have q1 : w2.cell? ⟨w.heap.size, 1, none⟩ = some (.int .i64 0) := by simp [World.cell?, HB.out]
    have q2 : w2.cell? ⟨w.heap.size, 2, none⟩ = some (.string ByteArray.empty) := by simp [World.cell?, HB.out]
    have q3 : w2.cell? ⟨w.heap.size, 3, none⟩ = some (.float .f64 0) := by simp [World.cell?, HB.out]
    have f0 : w2.frozen? ⟨w.heap.size, 0, none⟩ = false := by simp [World.frozen?, HB.out]
    have f1 : w2.frozen? ⟨w.heap.size, 1, none⟩ = false := by simp [World.frozen?, HB.out]
    have f2 : w2.frozen? ⟨w.heap.size, 2, none⟩ = false := by simp [World.frozen?, HB.out]
    have f3 : w2.frozen? ⟨w.heap.size, 3, none⟩ = false := by simp [World.frozen?, HB.out]
    go_wp2_with fail
    refine value_end rfl rfl (cells4_at HB.out _ _ _ _) rfl ?_
    refine ⟨⟨4, 0, ByteArray.empty, canonR q⟩, by first | rfl | (rw [HZ.out]; rfl), fun p r h => ?_, ?_, grown4 BA.out G2.out _ _ _ _⟩
    · rw [HQ.out]; exact map_out (d := 0) (f := fun q : Nat => (⟨4, 0, ByteArray.empty, canonR q⟩ : Vl)) p r h
    · rw [left_map (fun q : Nat => (⟨4, 0, ByteArray.empty, canonR q⟩ : Vl))]; exact rx4 HG.out R2.out _ _ _ _
  have b6 : (x.toList == [100]) = false := str_bne (l := [100]) c6
  by_cases c7 : x = ⟨#[83]⟩
  · obtain ⟨r, hyr⟩ : ∃ r, y = some (⟨#[83]⟩, r) := by
      cases y with
      | none => rw [HX.out] at c7; exact absurd (congrArg ByteArray.size c7) (by decide)
      | some q => obtain ⟨q1, r⟩ := q; rw [HX.out] at c7; exact ⟨r, by rw [← c7]; rfl⟩
    subst hyr
    rw [show ((some ((⟨#[83]⟩ : ByteArray), r) : Option (ByteArray × ByteArray)).bind fun p => valQ p.1 p.2) = (longP r).map (fun q => ((⟨3, 0, q.1, 0⟩ : Vl), q.2)) from by show valQ ⟨#[83]⟩ r = _; unfold valQ; rw [if_neg (by decide), if_neg (by decide), if_neg (by decide), if_neg (by decide), if_neg (by decide), if_neg (by decide), if_neg (by decide), if_pos rfl]]
    subst c7
    obtain ⟨y2, hy2⟩ : ∃ y2, y2 = longP r := ⟨_, rfl⟩
    rw [← hy2]
    have HY := Lib.hid hy2
    clear HX hy2 b0 b1 b2 b3 b4 b5 b6
    go_enter Tryd.func64, Tryd.ntmps64
    go_wp2_with fail
    refine (HT.out).mono ?_
    rintro e w1 ⟨rfl, r1, g1⟩
    have hN := xLong_c (o := some r) r1
    rw [show (some r).bind (longP) = longP r from rfl] at hN
    rw [← HY.out] at hN
    obtain ⟨q, hq⟩ : ∃ q, q = outX ByteArray.empty y2 := ⟨_, rfl⟩
    have hq2 := hq.symm
    have HQ := Lib.hid hq
    have HN := Lib.hid hN
    have G1 := Lib.hid g1
    clear hN g1 r1 hq
    go_wp2_with fail
    refine (HN.out).mono ?_
    rintro e w2 ⟨rfl, r2, g2⟩
    have R2 := Lib.hid r2
    have G2 := Lib.hid (G1.out.trans g2)
    clear r2 g2
    have HB := Lib.hid (HNW.out _ G2.out)
    have q0 : w2.cell? ⟨w.heap.size, 0, none⟩ = some (.int .i64 0) := by simp [World.cell?, HB.out]
    have q1 : w2.cell? ⟨w.heap.size, 1, none⟩ = some (.int .i64 0) := by simp [World.cell?, HB.out]
    have q2 : w2.cell? ⟨w.heap.size, 2, none⟩ = some (.string ByteArray.empty) := by simp [World.cell?, HB.out]
    have q3 : w2.cell? ⟨w.heap.size, 3, none⟩ = some (.float .f64 0) := by simp [World.cell?, HB.out]
    have f0 : w2.frozen? ⟨w.heap.size, 0, none⟩ = false := by simp [World.frozen?, HB.out]
    have f1 : w2.frozen? ⟨w.heap.size, 1, none⟩ = false := by simp [World.frozen?, HB.out]
    have f2 : w2.frozen? ⟨w.heap.size, 2, none⟩ = false := by simp [World.frozen?, HB.out]
    have f3 : w2.frozen? ⟨w.heap.size, 3, none⟩ = false := by simp [World.frozen?, HB.out]
    go_wp2_with fail
    refine value_end rfl rfl (cells4_at HB.out _ _ _ _) rfl ?_
    refine ⟨⟨3, 0, q, 0⟩, by first | rfl | (rw [HZ.out]; rfl), fun p r h => ?_, ?_, grown4 BA.out G2.out _ _ _ _⟩
    · rw [HQ.out]; exact map_out (d := ByteArray.empty) (f := fun q : ByteArray => (⟨3, 0, q, 0⟩ : Vl)) p r h
    · rw [left_map (fun q : ByteArray => (⟨3, 0, q, 0⟩ : Vl))]; exact rx4 HG.out R2.out _ _ _ _
  have b7 : (x.toList == [83]) = false := str_bne (l := [83]) c7
  have hQ : (y.bind fun p => valQ p.1 p.2) = none := by
    cases y with
    | none => rfl
    | some q =>
      obtain ⟨q1, r⟩ := q
      have e : x = q1 := HX.out
      subst e
      show valQ _ r = none
      unfold valQ
      rw [if_neg c0, if_neg c1, if_neg c2, if_neg c3, if_neg c4, if_neg c5, if_neg c6, if_neg c7]
  rw [hQ]
  clear hQ HX c0 c1 c2 c3 c4 c5 c6 c7
  go_enter Tryd.func64, Tryd.ntmps64
  go_wp2_with fail
  refine (HT.out).mono ?_
  rintro e w1 ⟨rfl, r1, g1⟩
  obtain ⟨s1, bb, r2⟩ := rx_bad r1
  obtain ⟨m0, m1, n0, n1⟩ := rr_facts r2
  have R2 := Lib.hid r2
  have G1 := Lib.hid g1
  clear r1 g1 r2
  have HB0 := HNW.out _ G1.out
  have HB := Lib.hid ((Below.heap_setCell w1 ⟨R, 1, none⟩ (.bool true) w.heap.size (by have := HG.out; show w.heap.size ≠ R; omega)).trans HB0)
  clear HB0
  have q0 : (w1.setCell ⟨R, 1, none⟩ (.bool true)).cell? ⟨w.heap.size, 0, none⟩ = some (.int .i64 0) := by simp [World.cell?, HB.out]
  have q1 : (w1.setCell ⟨R, 1, none⟩ (.bool true)).cell? ⟨w.heap.size, 1, none⟩ = some (.int .i64 0) := by simp [World.cell?, HB.out]
  have q2 : (w1.setCell ⟨R, 1, none⟩ (.bool true)).cell? ⟨w.heap.size, 2, none⟩ = some (.string ByteArray.empty) := by simp [World.cell?, HB.out]
  have q3 : (w1.setCell ⟨R, 1, none⟩ (.bool true)).cell? ⟨w.heap.size, 3, none⟩ = some (.float .f64 0) := by simp [World.cell?, HB.out]
  have f0 : (w1.setCell ⟨R, 1, none⟩ (.bool true)).frozen? ⟨w.heap.size, 0, none⟩ = false := by simp [World.frozen?, HB.out]
  have f1 : (w1.setCell ⟨R, 1, none⟩ (.bool true)).frozen? ⟨w.heap.size, 1, none⟩ = false := by simp [World.frozen?, HB.out]
  have f2 : (w1.setCell ⟨R, 1, none⟩ (.bool true)).frozen? ⟨w.heap.size, 2, none⟩ = false := by simp [World.frozen?, HB.out]
  have f3 : (w1.setCell ⟨R, 1, none⟩ (.bool true)).frozen? ⟨w.heap.size, 3, none⟩ = false := by simp [World.frozen?, HB.out]
  go_wp2_with fail
  refine value_end rfl rfl (cells4_at HB.out _ _ _ _) rfl ?_
  refine ⟨⟨0, 0, ByteArray.empty, 0⟩, rfl, (fun p r h => by cases h), rx4 HG.out (o := none) ⟨s1, rr_set1 R2.out true⟩ _ _ _ _, grown4 BA.out (G1.out.trans (grownBy_set _ R 1 _)) _ _ _ _⟩
end Go.Proofs.YteigbejidfkhpaaDoor

/- The reference's table: plain laws of its two inner loops. -/
namespace Go.Proofs.YteigbejidfkhpaaDoor
open Go Go.RowKit
set_option linter.unusedSimpArgs false
set_option linter.unusedVariables false

/-- What is left behind the first k items' names have been looked at: none if one is the new one's. -/
def dupX (p : Prp) (l : List Prp) (o : Option ByteArray) : Option ByteArray := if freshB p l = true then o else none
theorem dup_nil (p : Prp) (o : Option ByteArray) : dupX p [] o = o := rfl
theorem fresh_snoc (p x : Prp) (l : List Prp) : freshB p (l ++ [x]) = (freshB p l && decide (x.nm ≠ p.nm)) := by
  unfold freshB
  rw [List.all_append]
  simp
theorem dup_yes {p x : Prp} {l : List Prp} {o : Option ByteArray} (h : x.nm = p.nm) : dupX p (l ++ [x]) o = none := by
  unfold dupX
  rw [fresh_snoc, h]
  simp
theorem dup_no {p x : Prp} {l : List Prp} {o : Option ByteArray} (h : x.nm ≠ p.nm) : dupX p (l ++ [x]) o = dupX p l o := by
  unfold dupX
  rw [fresh_snoc]
  simp [h]
/-- The new list so far, and whether the new one is in it. -/
def insT (p : Prp) : List Prp → List Prp × Bool → List Prp × Bool
  | [], s => s
  | x :: r, s => insT p r (if s.2 = false ∧ Go.Op.bytesLess p.nm.toList x.nm.toList = true then (s.1 ++ [p, x], true) else (s.1 ++ [x], s.2))
theorem insT_snoc (p x : Prp) : ∀ (l : List Prp) (s : List Prp × Bool), insT p (l ++ [x]) s = (if (insT p l s).2 = false ∧ Go.Op.bytesLess p.nm.toList x.nm.toList = true then ((insT p l s).1 ++ [p, x], true) else ((insT p l s).1 ++ [x], (insT p l s).2))
  | [], s => rfl
  | y :: r, s => by
    show insT p (r ++ [x]) _ = _
    rw [insT_snoc p x r]
    rfl
theorem insT_true (p : Prp) : ∀ (l m : List Prp), insT p l (m, true) = (m ++ l, true)
  | [], m => by simp [insT]
  | x :: r, m => by
    show insT p r _ = _
    rw [if_neg (by simp), insT_true p r]
    simp
theorem insT_end (p : Prp) : ∀ (l m : List Prp), (if (insT p l (m, false)).2 = true then (insT p l (m, false)).1 else (insT p l (m, false)).1 ++ [p]) = m ++ insP p l
  | [], m => by simp [insT, insP]
  | x :: r, m => by
    by_cases h : Go.Op.bytesLess p.nm.toList x.nm.toList = true
    · have e1 : insT p (x :: r) (m, false) = (m ++ [p, x] ++ r, true) := by
        show insT p r _ = _
        rw [if_pos ⟨rfl, h⟩, insT_true]
      have e2 : insP p (x :: r) = p :: x :: r := if_pos h
      rw [e1, e2, if_pos rfl]
      simp
    · have e1 : insT p (x :: r) (m, false) = insT p r (m ++ [x], false) := by
        show insT p r _ = _
        rw [if_neg (fun k => h k.2)]
      have e2 : insP p (x :: r) = x :: insP p r := if_neg h
      rw [e1, e2, insT_end p r (m ++ [x])]
      simp
theorem insT_len (p : Prp) : ∀ (l : List Prp) (s : List Prp × Bool), (insT p l s).1.length ≤ s.1.length + 2 * l.length
  | [], s => Nat.le_refl _
  | x :: r, s => by
    unfold insT
    have a := insT_len p r (if s.2 = false ∧ Go.Op.bytesLess p.nm.toList x.nm.toList = true then (s.1 ++ [p, x], true) else (s.1 ++ [x], s.2))
    refine Nat.le_trans a ?_
    split <;> simp only [List.length_append, List.length_cons, List.length_nil] <;> omega
theorem insT_mem (p : Prp) : ∀ (l : List Prp) (s : List Prp × Bool), ∀ q ∈ (insT p l s).1, q = p ∨ q ∈ l ∨ q ∈ s.1
  | [], s, q, h => .inr (.inr h)
  | x :: r, s, q, h => by
    unfold insT at h
    rcases insT_mem p r _ q h with h | h | h
    · exact .inl h
    · exact .inr (.inl (List.mem_cons_of_mem _ h))
    · split at h
      · simp only [List.mem_append, List.mem_cons, List.not_mem_nil, or_false] at h
        rcases h with h | h | h
        · exact .inr (.inr h)
        · exact .inl h
        · exact .inr (.inl (by rw [h]; exact List.mem_cons_self ..))
      · simp only [List.mem_append, List.mem_cons, List.not_mem_nil, or_false] at h
        rcases h with h | h
        · exact .inr (.inr h)
        · exact .inr (.inl (by rw [h]; exact List.mem_cons_self ..))
theorem insP_len (p : Prp) (l : List Prp) : (insP p l).length = l.length + 1 := (insP_perm p l).length_eq
/-- What is behind an item. -/
def itemL (y : ByteArray) : Option ByteArray := leftX (((leftX ((some y).bind shortP))).bind valP)
theorem itemL_eq (y : ByteArray) : itemL y = leftX (itemP y) := by
  unfold itemL itemP
  rw [Option.bind_some]
  cases shortP y with
  | none => rfl
  | some q =>
    show leftX ((some q.2).bind valP) = leftX ((some q).bind _)
    rw [Option.bind_some, Option.bind_some]
    cases valP q.2 <;> rfl
theorem refIn_no {y : ByteArray} {acc : List Prp} (h : y.size ≠ 0) (hi : itemL y = none) : refIn y acc = none := by
  rw [itemL_eq] at hi
  refine refIn_bad h ?_ acc
  cases hy : itemP y with
  | none => rfl
  | some q => rw [hy] at hi; cases hi
theorem canonR_lt {n : Nat} (h : n < 18446744073709551616) : canonR n < 18446744073709551616 := by
  unfold canonR
  split
  · decide
  · exact h
theorem widR_lt (n : Nat) (w : World) : widR n < 18446744073709551616 := by
  obtain ⟨b, _, _, _, h, hb⟩ := to64_any2 n w
  rw [← h]
  exact canonR_lt hb
theorem valP_r (w : World) {s r : ByteArray} {v : Vl} (h : valP s = some (v, r)) : v.r < 18446744073709551616 := by
  unfold valP at h
  obtain ⟨q0, h0, h⟩ := Option.bind_eq_some_iff.1 h
  obtain ⟨x, r0⟩ := q0
  dsimp only at h
  unfold valQ at h
  have key : ∀ {k : Nat} {f : Nat → Vl} {a : ByteArray}, (∀ n, n < 256 ^ k → (f n).r < 18446744073709551616) → (numP k a).map (fun q => (f q.1, q.2)) = some (v, r) → v.r < 18446744073709551616 := by
    intro k f a hf h
    obtain ⟨q, h1, h2⟩ := Option.map_eq_some_iff.1 h
    obtain ⟨n, y⟩ := q
    injection h2 with h2 _
    rw [← h2]
    exact hf _ (numP_lt h1)
  have z : (0 : Nat) < 18446744073709551616 := by decide
  (repeat' split at h)
  · exact key (f := fun n => ⟨2, n, ByteArray.empty, 0⟩) (fun _ _ => z) h
  · exact key (f := fun n => ⟨1, sgn 8 n, ByteArray.empty, 0⟩) (fun _ _ => z) h
  · exact key (f := fun n => ⟨1, sgn 16 n, ByteArray.empty, 0⟩) (fun _ _ => z) h
  · exact key (f := fun n => ⟨1, sgn 32 n, ByteArray.empty, 0⟩) (fun _ _ => z) h
  · exact key (f := fun n => ⟨1, sgn 64 n, ByteArray.empty, 0⟩) (fun _ _ => z) h
  · exact key (f := fun n => ⟨4, 0, ByteArray.empty, widR n⟩) (fun n _ => widR_lt n w) h
  · exact key (f := fun n => ⟨4, 0, ByteArray.empty, canonR n⟩) (fun n hn => canonR_lt hn) h
  · obtain ⟨q, h1, h2⟩ := Option.map_eq_some_iff.1 h
    injection h2 with h2 _
    rw [← h2]
    exact z
  · cases h
theorem tab_bind (o : Option ByteArray) : o.bind tableP = (o.bind longP).bind fun p => ((refIn p.1 []).bind fun o => if validB o = true then some o else none).map fun l => (l, p.2) := by
  cases o with
  | none => rfl
  | some s => rw [Option.bind_some, tableP_ref, Option.bind_some]
theorem tab_bad1 {o : Option ByteArray} {O : Option (ByteArray × ByteArray)} {x : ByteArray} (hO : O = o.bind longP) (hx : x = outX ByteArray.empty O) (h : refIn x [] = none) : o.bind tableP = none := by
  rw [tab_bind, ← hO]
  cases O with
  | none => rfl
  | some q =>
    have : x = q.1 := hx
    subst this
    rw [Option.bind_some, h]
    rfl
theorem tab_bad2 {o : Option ByteArray} {O : Option (ByteArray × ByteArray)} {x : ByteArray} {acc : List Prp} (hO : O = o.bind longP) (hx : x = outX ByteArray.empty O) (h : refIn x [] = some acc) (hv : validB acc = false) : o.bind tableP = none := by
  rw [tab_bind, ← hO]
  cases O with
  | none => rfl
  | some q =>
    have : x = q.1 := hx
    subst this
    rw [Option.bind_some, h, Option.bind_some, hv]
    rfl
theorem tab_good {o : Option ByteArray} {O : Option (ByteArray × ByteArray)} {x : ByteArray} {acc : List Prp} (hO : O = o.bind longP) (hx : x = outX ByteArray.empty O) (h : refIn x [] = some acc) (hv : validB acc = true) : outX [] (o.bind tableP) = acc ∧ leftX (o.bind tableP) = leftX O := by
  rw [tab_bind, ← hO]
  cases O with
  | none =>
    have : x = ByteArray.empty := hx
    subst this
    rw [refIn_end rfl] at h
    injection h with h
    exact ⟨h, rfl⟩
  | some q =>
    have : x = q.1 := hx
    subst this
    rw [Option.bind_some, h, Option.bind_some, hv]
    exact ⟨rfl, rfl⟩
/-- What the reading of an item makes. -/
theorem item_of {y y2 : ByteArray} {v : Vl} (hv : ∀ p r, (leftX ((some y).bind shortP)).bind valP = some (p, r) → v = p) (hl : leftX ((leftX ((some y).bind shortP)).bind valP) = some y2) :
    itemP y = some (⟨outX ByteArray.empty ((some y).bind shortP), v.k, v.n, v.t, v.r⟩, y2) := by
  unfold itemP
  rw [Option.bind_some] at hv hl ⊢
  cases hs : shortP y with
  | none => rw [hs] at hl; cases hl
  | some q =>
    rw [hs] at hv hl
    rw [show leftX (some q) = some q.2 from rfl, Option.bind_some] at hv hl
    rw [Option.bind_some]
    cases hw : valP q.2 with
    | none => rw [hw] at hl; cases hl
    | some z =>
      rw [hw] at hl
      have h1 := hv z.1 z.2 hw
      have h2 : z.2 = y2 := Option.some.inj hl
      subst h2
      rw [h1]
      rfl
theorem dup_some {p : Prp} {l : List Prp} {o : Option ByteArray} {y : ByteArray} (h : dupX p l o = some y) : o = some y ∧ freshB p l = true := by
  unfold dupX at h
  split at h
  · rename_i hf; exact ⟨h, hf⟩
  · cases h
/-- The reading of an item that ends it. -/
theorem in_stop {x y : ByteArray} {acc : List Prp} {p : Prp} {o : Option ByteArray} (ht : refIn x [] = refIn y acc) (hy : y.size ≠ 0) (hi : ∀ y2, o = some y2 → itemP y = some (p, y2)) (ho : o = itemL y) (hd : dupX p acc o = none) : refIn x [] = none := by
  rw [ht]
  cases hO : o with
  | none => exact refIn_no hy (ho.symm.trans hO)
  | some y2 =>
    rw [refIn_step hy (hi y2 hO)]
    refine if_neg fun k => ?_
    unfold dupX at hd
    rw [if_pos k.1, hO] at hd
    cases hd
theorem in_long {x y y2 : ByteArray} {acc : List Prp} {p : Prp} (ht : refIn x [] = refIn y acc) (hy : y.size ≠ 0) (hi : itemP y = some (p, y2)) (hl : 16 < acc.length) : refIn x [] = none := by
  rw [ht, refIn_step hy hi]
  exact if_neg fun k => by omega
theorem in_next {x y y2 : ByteArray} {acc : List Prp} {p : Prp} (ht : refIn x [] = refIn y acc) (hy : y.size ≠ 0) (hi : itemP y = some (p, y2)) (hf : freshB p acc = true) (hl : acc.length ≤ 16) : refIn x [] = refIn y2 (insP p acc) := by
  rw [ht, refIn_step hy hi]
  exact if_pos ⟨hf, hl⟩
theorem valid_17 {acc : List Prp} (h : 16 < acc.length) : validB acc = false := by
  cases hv : validB acc with
  | false => rfl
  | true => have := valid_len hv; omega
theorem itemP_r (w : World) {s r : ByteArray} {p : Prp} (h : itemP s = some (p, r)) : p.r < 18446744073709551616 := by
  unfold itemP at h
  obtain ⟨q, h1, h2⟩ := Option.bind_eq_some_iff.1 h
  obtain ⟨q2, h3, h4⟩ := Option.map_eq_some_iff.1 h2
  injection h4 with h4 h5
  rw [← h4]
  exact valP_r w (s := q.2) (v := q2.1) (r := q2.2) h3
end Go.Proofs.YteigbejidfkhpaaDoor
