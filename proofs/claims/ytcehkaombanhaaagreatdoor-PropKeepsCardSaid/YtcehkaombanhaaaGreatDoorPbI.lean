/- Layer 7's statements: what is too long to be played. -/
import Derived.Test.YtcehkaombanhaaaGreatDoorTbC
namespace Go.Proofs.YtcehkaombanhaaaGreatDoor
open Go Go.RowKit
set_option linter.unusedSimpArgs false
set_option linter.unusedVariables false

theorem round_lessL {n k : Nat} (h : k < n) : n - (intOf (.int .i64 ((k : Int) + 1))).toNat < n - (intOf (.int .i64 (k : Int))).toNat := by
  show n - ((k : Int) + 1).toNat < n - (k : Int).toNat
  rw [show ((k : Int) + 1).toNat = k + 1 by omega, Int.toNat_natCast]
  omega
set_option maxRecDepth 100000 in
set_option maxHeartbeats 2000000 in
theorem long_c {w : World} {v : Value} {ps : List Prp} (hp : RPr w v ps) (hsz : ∀ p ∈ ps, p.nm.size ≤ 140737488351232 ∧ p.t.size ≤ 140737488351232) :
    Calls Tryz.prog 13 #[v] w fun e w' => ∃ b : Bool, e = .returned (.bool b) ∧ (b = false → ps.length ≤ 16384) ∧ Below w.heap.size w w' := by
  obtain ⟨A, c, rfl, hnc, hcell⟩ := props_at hp
  have HC := Lib.hid hcell
  have HS := Lib.hid hsz
  have qs := store_float (P := Tryz.prog)
  clear hp hcell hsz
  go_enter Tryz.func13, Tryz.ntmps13
  go_wp2_with fail
  go_loopw [3, 8] (fun x i wr => ∃ k m : Nat, k ≤ ps.length ∧ i = .int .i64 k ∧ x = .int .i64 m ∧ m ≤ 16384 ∧ Hid (k ≤ m) ∧ Below w.heap.size w wr) (fun _ i _ => ps.length - (intOf i).toNat)
  case atStart => exact ⟨0, 0, Nat.zero_le _, rfl, rfl, Nat.zero_le _, Lib.hid (Nat.zero_le _), Below.refl _ _⟩
  case round =>
    obtain ⟨k, m, hk, rfl, rfl, hm, HKM, b2⟩ := hrel
    by_cases hlt : k < ps.length
    · obtain ⟨p, hp⟩ : ∃ p, ps[k]? = some p := ⟨_, List.getElem?_eq_getElem hlt⟩
      obtain ⟨a, rfl, q0, q1, q2, q3, q4⟩ := HC.out k p hp
      have hs2 := HS.out p (List.mem_of_getElem? hp)
      obtain ⟨tot, htot⟩ : ∃ tot : Nat, tot = m + (1 + p.nm.size + p.t.size) := ⟨_, rfl⟩
      have e1 : IntKind.i64.wrap (1 + (p.nm.size : Int)) = 1 + p.nm.size := IntWalk.i64_in _ (by omega)
      have e2 : IntKind.i64.wrap (1 + (p.nm.size : Int) + (p.t.size : Int)) = 1 + p.nm.size + p.t.size := IntWalk.i64_in _ (by omega)
      have e3 : IntKind.i64.wrap ((m : Int) + (1 + (p.nm.size : Int) + (p.t.size : Int))) = m + (1 + p.nm.size + p.t.size) := IntWalk.i64_in _ (by omega)
      have hz0 : (0 : Int) ≤ p.nm.size := by omega
      have hz1 : (p.nm.size : Int) ≤ 140737488351232 := by omega
      have hz2 : (p.t.size : Int) ≤ 140737488351232 := by omega
      have p0 := cell_below b2 (World.block_lt_of_cell? w _ q0) q0
      have p1 := cell_below b2 (World.block_lt_of_cell? w _ q1) q1
      have p2 := cell_below b2 (World.block_lt_of_cell? w _ q2) q2
      have p3 := cell_below b2 (World.block_lt_of_cell? w _ q3) q3
      have p4 := cell_below b2 (World.block_lt_of_cell? w _ q4) q4
      have b3 := b2.alloc b2.size (.cells #[.string p.nm, .int .i64 p.k, .int .i64 p.n, .string p.t, .float .f64 p.r] 32)
      have HTOT := Lib.hid htot
      have HLT := Lib.hid hlt
      clear hp q0 q1 q2 q3 q4 hs2 htot
      by_cases hg : (16384 : Int) < m + (1 + p.nm.size + p.t.size)
      · go_wp2_with fail
        go_ret
        exact ⟨true, rfl, (fun h => by cases h), b3⟩
      · have hg' : (m : Int) + (1 + p.nm.size + p.t.size) ≤ 16384 := by omega
        clear hg
        go_wp2_with fail
        have hwk : wrap64 ((k : Int) + 1) = (k : Int) + 1 := by have := HKM.out; unfold wrap64; omega
        go_roundw
        case rel => exact ⟨k + 1, tot, by omega, by rw [hwk]; rfl, by rw [HTOT.out]; rfl, by have := HTOT.out; omega, Lib.hid (by have := HTOT.out; have := HKM.out; omega), b3⟩
        case measure => rw [hwk]; exact round_lessL HLT.out
    · have hk2 : k = ps.length := by omega
      subst hk2
      clear hlt
      have HM := Lib.hid hm
      go_wp2_with fail
      go_ret
      exact ⟨false, rfl, (fun _ => by have := HKM.out; have := HM.out; omega), b2⟩
end Go.Proofs.YtcehkaombanhaaaGreatDoor
