/- Stable sorting of properties by their names: the comparison; exchanges of ranges. -/
import Derived.Test.YteigbejidfkhpaaDoorTbC
import Derived.Shelf.SlSortCmp.KitK
import Derived.Sort.WalkB2
import Derived.Sort.WalkB12
import Derived.Deep.LoopGhost
namespace Go.Proofs.YteigbejidfkhpaaDoor
open Go Go.Proofs Go.RowKit Go.Lib Go.Sort Go.Shelf
set_option linter.unusedSimpArgs false
set_option linter.unusedVariables false

instance : Inhabited Prp := ⟨⟨ByteArray.empty, 0, 0, ByteArray.empty, 0⟩⟩
def cfP (x y : Prp) : Int := Lib.compareBytes x.nm.data.toList y.nm.data.toList

set_option maxRecDepth 100000 in
theorem cmpP_c {w : World} (x y : Prp) : Calls Tryd.prog 62 #[.agg #[.string x.nm, .int .i64 x.k, .int .i64 x.n, .string x.t, .float .f64 x.r], .agg #[.string y.nm, .int .i64 y.k, .int .i64 y.n, .string y.t, .float .f64 y.r]] w fun e w' => e = .returned (.int .i64 (cfP x y)) ∧ ∃ q os', w' = grow (w.drewN q) os' := by
  go_enter Tryd.func62, Tryd.ntmps62
  go_wp2_with fail
  refine (Tryd.strings_Compare x.nm y.nm _).mono ?_
  rintro e w' ⟨rfl, rfl⟩
  go_wp2_with fail
  go_ret
  refine ⟨rfl, 0, #[.cells #[.string x.nm, .int .i64 x.k, .int .i64 x.n, .string x.t, .float .f64 x.r] 48] ++ #[.cells #[.string y.nm, .int .i64 y.k, .int .i64 y.n, .string y.t, .float .f64 y.r] 48], ?_⟩
  rw [alloc_eq_grow, alloc_eq_grow, grow_grow]
  rfl
theorem cmpLays (k blk off size : Nat) (w : World) : CmpLays Tryd.prog 62 #[] Prp.cells k cfP blk off size w := fun m os dk _ x y => cmpP_c x y

/-- Some permutation of what the row held. -/
def SWP (k : Nat) (w0 : World) (blk off : Nat) (d : Array Prp) (W : World) : Prop := ∃ dk : Array Prp, dk.size = d.size ∧ PermIn 0 d.size d dk ∧ SWK Prp.cells k w0 blk off dk W
theorem SWP.refl {k : Nat} {w0 W : World} {blk off : Nat} {d : Array Prp} (h : SWK Prp.cells k w0 blk off d W) : SWP k w0 blk off d W := ⟨d, rfl, permIn_refl _ _ _, h⟩
theorem SWP.of {k : Nat} {w0 W : World} {blk off : Nat} {d d' : Array Prp} (hp : PermIn 0 d.size d d') (h : SWP k w0 blk off d' W) : SWP k w0 blk off d W := by
  obtain ⟨dk, h1, h2, h3⟩ := h
  have hs : d'.size = d.size := hp.1
  exact ⟨dk, by omega, permIn_trans d d' dk 0 d.size hp (by rw [← hs]; exact h2), h3⟩

set_option maxHeartbeats 4000000 in
set_option maxRecDepth 1000000 in
theorem swapRange_c {k : Nat} (aE : ∀ w, (isAgg 48).run Tryd.prog w = .ok true w) (zE : ∀ w, (Go.sizeOf 48).run Tryd.prog w = .ok k w) {w0 w : World} {blk off cap a b n : Nat} {d0 d : Array Prp} {fv : Value} (R : RowK Prp.cells k w0 blk off d0) (hs : d0.size = d.size) (S : SWK Prp.cells k w0 blk off d w) (ha : a + n ≤ d.size) (hb : b + n ≤ d.size) (hsz : d.size < 4611686018427387904) :
    Calls Tryd.prog 96 #[.slice (some ⟨blk, off, none⟩) d.size cap, .int .i64 a, .int .i64 b, .int .i64 n, fv] w fun e w' => e = .returned (.tuple #[]) ∧ SWP k w0 blk off d w' := by
  have mixed : Tryd.prog.follows .mixedOrders = true := by kernel_rfl
  have S0 : Aside (SWK Prp.cells k w0 blk off d w) := S
  clear S
  go_enter Tryd.func96, Tryd.ntmps96
  go_wp2
  go_loopg [10] n (fun kx s10 wr => ∃ (i : Nat) (dk : Array Prp), s10 = .int .i64 i ∧ i ≤ n ∧ n - i ≤ kx ∧ dk.size = d.size ∧ Aside (PermIn 0 d.size d dk) ∧ Aside (SWK Prp.cells k w0 blk off dk wr))
  case atStart => exact ⟨0, d, rfl, Nat.zero_le _, Nat.le_refl _, rfl, permIn_refl _ _ _, S0⟩
  case round =>
    clear S0
    obtain ⟨i, dk, rfl, hi, hkx, hds, HP, S1⟩ := hrel
    by_cases hlt : i < n
    · have hltz : (i : Int) < (n : Int) := by omega
      go_wp2_with fail
      have ea : ((a : Int) + (i : Int)).toNat = a + i := by omega
      have pa : (0 : Int) ≤ (a : Int) + (i : Int) := by omega
      have ba : (a : Int) + (i : Int) < (d.size : Int) := by omega
      have ra : IntKind.i64.wrap ((a : Int) + (i : Int)) = (a : Int) + (i : Int) := by rw [IntKind.wrap_i64]; omega
      have eb : ((b : Int) + (i : Int)).toNat = b + i := by omega
      have pb : (0 : Int) ≤ (b : Int) + (i : Int) := by omega
      have bb : (b : Int) + (i : Int) < (d.size : Int) := by omega
      have rb : IntKind.i64.wrap ((b : Int) + (i : Int)) = (b : Int) + (i : Int) := by rw [IntKind.wrap_i64]; omega
      have S2 : Aside (SWK Prp.cells k w0 blk off (swp dk (a + i) (b + i)) ((wr.drew.setCells blk (off + (a + i) * k) (Prp.cells dk[b + i]!)).setCells blk (off + (b + i) * k) (Prp.cells dk[a + i]!))) := S1.out.swapped R (a + i) (b + i) (by omega) (by omega)
      have l1 := S1.out.ld1 R (by omega) Tryd.prog (a + i) (by omega)
      have l2 := S1.out.ld1 R (by omega) Tryd.prog (b + i) (by omega)
      have s1 := S1.out.st1 R (by omega) Tryd.prog (a + i) (by omega) dk[b + i]!
      have s2 := S1.out.st2 R (by omega) Tryd.prog (a + i) (b + i) (by omega) (by omega) dk[b + i]! dk[a + i]!
      have n1 : (Prp.cells dk[a + i]!).length = k := R.hk _
      have n2 : (Prp.cells dk[b + i]!).length = k := R.hk _
      generalize Prp.cells dk[a + i]! = cI at S2 l1 s2 n1
      generalize Prp.cells dk[b + i]! = cJ at S2 l2 s1 s2 n2
      clear S1
      go_wp2_with fail
      go_big_region_o
      clear l1 l2 s1 s2
      generalize (wr.drew.setCells blk (off + (a + i) * k) cJ).setCells blk (off + (b + i) * k) cI = w2 at S2 ⊢
      go_wp2
      go_roundg (n - (i + 1))
      case measure => omega
      case rel => exact ⟨i + 1, swp dk (a + i) (b + i), by simp, by omega, Nat.le_refl _, by rw [size_swp]; exact hds, permIn_trans d dk _ 0 d.size HP.out (by rw [← hds]; exact swp_permIn dk 0 dk.size (a + i) (b + i) (Nat.zero_le _) (by omega) (Nat.zero_le _) (by omega) (Nat.le_refl _)), S2⟩
    · have hnot : ¬ (i : Int) < (n : Int) := by omega
      go_wp2
      go_end0
      exact ⟨rfl, dk, hds, HP.out, S1.out⟩
end Go.Proofs.YteigbejidfkhpaaDoor
