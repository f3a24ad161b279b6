/- Stable sorting of properties by their names: the order; the whole. -/
import Derived.Test.YteigbejidfkhpaaDoorSoD
import Derived.Sort.Walk0
import Derived.Shelf.SlLaysF0
import Derived.Sort.LotA
namespace Go.Proofs.YteigbejidfkhpaaDoor
open Go Go.Proofs Go.RowKit Go.Lib Go.Sort Go.Shelf
set_option linter.unusedSimpArgs false
set_option linter.unusedVariables false

theorem cmpB_neg : ∀ (x y : List UInt8), Lib.compareBytes x y < 0 ↔ x < y
  | [], [] => by simp [Lib.compareBytes]
  | [], _ :: _ => by simp [Lib.compareBytes]
  | _ :: _, [] => by simp [Lib.compareBytes]
  | a :: l, b :: m => by
    unfold Lib.compareBytes
    rw [List.cons_lt_cons_iff, ← cmpB_neg l m]
    by_cases h1 : a < b
    · simp [h1]
    · rw [if_neg h1]
      by_cases h2 : b < a
      · rw [if_pos h2]
        have : ¬ a = b := fun e => by subst e; exact h1 h2
        simp [h1, this]
      · rw [if_neg h2]
        have h3 : a = b := by
          apply UInt8.toNat_inj.1
          rw [UInt8.lt_iff_toNat_lt] at h1 h2
          omega
        simp [h1, h3]
theorem ltP_iff (x y : Prp) : ltOf cfP x y = true ↔ x.nm.data.toList < y.nm.data.toList := by
  unfold ltOf cfP
  rw [decide_eq_true_eq, cmpB_neg]
theorem ltP_no (x y : Prp) : ltOf cfP x y = false ↔ ¬ x.nm.data.toList < y.nm.data.toList := by
  rw [← ltP_iff, Bool.not_eq_true]
theorem ltP_swo : SWO (ltOf cfP) where
  irrefl x := by rw [ltP_no]; exact List.lt_irrefl _
  trans x y z h1 h2 := by
    rw [ltP_iff] at h1 h2 ⊢
    exact List.lt_trans h1 h2
  ntrans x y z h1 h2 := by
    rw [ltP_no] at h1 h2 ⊢
    rw [List.not_lt] at h1 h2 ⊢
    exact List.le_trans h2 h1

theorem symMerge_c {k : Nat} (aE : ∀ w, (isAgg 48).run Tryd.prog w = .ok true w) (zE : ∀ w, (Go.sizeOf 48).run Tryd.prog w = .ok k w) {w0 : World} {blk off cap : Nat} {d0 d : Array Prp} (R : RowK Prp.cells k w0 blk off d0) (hs : d0.size = d.size) (hsz : d.size < 4611686018427387904) :
    ∀ (N a m b : Nat) (w : World), b - a < N → a < m → m < b → b ≤ d.size → SWP k w0 blk off d w →
      Calls Tryd.prog 85 #[.slice (some ⟨blk, off, none⟩) d.size cap, .int .i64 a, .int .i64 m, .int .i64 b, .func (.func 62) #[] #[]] w fun e w' => e = .returned (.tuple #[]) ∧ SWP k w0 blk off d w'
  | 0, _, _, _, _, h, _, _, _, _ => absurd h (Nat.not_lt_zero _)
  | N + 1, a, m, b, w, h, h1, h2, h3, S => by
    by_cases c1 : m = a + 1
    · exact symMerge_first aE zE R hs S h1 h2 h3 hsz c1
    · by_cases c2 : b = m + 1
      · exact symMerge_last aE zE R hs S h1 h2 h3 hsz c1 c2
      · exact symMerge_gen aE zE R hs S h1 h2 h3 hsz c1 c2 (fun a' m' b' w' g0 g1 g2 g3 S' => symMerge_c aE zE R hs hsz N a' m' b' w' (by omega) g1 g2 g3 S')

def renI : Go.Shelf.Ren := ⟨fun | 20 => 84 | n => n, fun | 0 => 0 | 3 => 3 | 4 => 4 | 22 => 24 | 24 => 48 | 25 => 91 | n => n, fun n => n⟩
theorem laysI : SlLaysF0.n20 Tryd.prog renI := {
  mixed := by kernel_rfl
  f20 := ⟨Tryd.f84.name, by decide, Tryd.func84.trans (congrArg some (by kernel_rfl))⟩
  t0 := Tryd.underlying0
  a0 := Tryd.isAgg0
  z0 := Tryd.sizeOf0
  v0 := Tryd.zeroValue0
  t3 := Tryd.underlying3
  a3 := Tryd.isAgg3
  z3 := Tryd.sizeOf3
  v3 := Tryd.zeroValue3
  t4 := Tryd.underlying4
  a4 := Tryd.isAgg4
  z4 := Tryd.sizeOf4
  v4 := Tryd.zeroValue4
  t22 := Tryd.underlying24
  a22 := Tryd.isAgg24
  z22 := Tryd.sizeOf24
  v22 := Tryd.zeroValue24
  t25 := Tryd.underlying91
  a25 := Tryd.isAgg91
  z25 := Tryd.sizeOf91
  v25 := Tryd.zeroValue91 }

theorem insertion_c {w0 w : World} {blk off cap a b : Nat} {d0 d : Array Prp} {ai bi : Int} (hai : ai = a) (hbi : bi = b) (R : RowK Prp.cells 5 w0 blk off d0) (hs : d0.size = d.size) (S : SWK Prp.cells 5 w0 blk off d w) (hab : a ≤ b) (hb : b ≤ d.size) (hsz : d.size < 4611686018427387904) :
    Calls Tryd.prog 84 #[.slice (some ⟨blk, off, none⟩) d.size cap, .int .i64 ai, .int .i64 bi, .func (.func 62) #[] #[]] w fun e w' => e = .returned (.tuple #[]) ∧ SWK Prp.cells 5 w0 blk off (Sort.insertionSort (ltOf cfP) d a b) w' := by
  subst hai hbi
  have hs' : (Sort.insertionSort (ltOf cfP) d a b).size = d.size := (insertionSort_holds ltP_swo d a b hab hb).1.1
  refine (AnyQ.insertionSortCmpFunc laysI 5 Tryd.isAgg48 Tryd.sizeOf48 Prp.cells R.hk R.h1 cfP 62 #[] blk off cap a b d w (fun args w => enters_of Tryd.func62 (by kernel_rfl) rfl args w) (cmpLays 5 blk off d.size w) (S.holds R.hblk R.hH hs.symm) (S.lt R.hblk) hab hb hsz).mono ?_
  rintro e w' ⟨rfl, n, os, rfl⟩
  exact ⟨rfl, S.on R.hblk n _ os hs'⟩
end Go.Proofs.YteigbejidfkhpaaDoor
