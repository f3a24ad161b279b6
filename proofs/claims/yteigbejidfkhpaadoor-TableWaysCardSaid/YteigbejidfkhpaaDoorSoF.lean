/- Stable sorting of properties by their names: the whole. -/
import Derived.Test.YteigbejidfkhpaaDoorSoE
namespace Go.Proofs.YteigbejidfkhpaaDoor
open Go Go.Proofs Go.RowKit Go.Lib Go.Sort Go.Shelf
set_option linter.unusedSimpArgs false
set_option linter.unusedVariables false

/-- What the sort leaves: a permutation; of fewer than 20, what the insertion sort makes. -/
def SoPost (w0 : World) (blk off : Nat) (d : Array Prp) (e : Ending) (w' : World) : Prop :=
  e = .returned (.tuple #[]) ∧ ∃ dk : Array Prp, dk.size = d.size ∧ PermIn 0 d.size d dk ∧ (d.size < 20 → dk = Sort.insertionSort (ltOf cfP) d 0 d.size) ∧ SWK Prp.cells 5 w0 blk off dk w'

theorem ins_swp {w0 W : World} {blk off a b : Nat} {d dk : Array Prp} (hd : dk.size = d.size) (HP : PermIn 0 d.size d dk) (hab : a ≤ b) (hb : b ≤ d.size) (S : SWK Prp.cells 5 w0 blk off (Sort.insertionSort (ltOf cfP) dk a b) W) : SWP 5 w0 blk off d W := by
  have h := (insertionSort_holds ltP_swo dk a b hab (by omega)).1
  have h1 := h.1
  refine ⟨_, by omega, permIn_trans d dk _ 0 d.size HP (permIn_mono dk _ a b 0 d.size (Nat.zero_le _) hb (by omega) h), S⟩

set_option maxHeartbeats 4000000 in
set_option maxRecDepth 1000000 in
theorem stable_small {w : World} {blk off cap : Nat} {d : Array Prp} (R : RowK Prp.cells 5 w blk off d) (hsm : d.size < 20) :
    Calls Tryd.prog 72 #[.slice (some ⟨blk, off, none⟩) d.size cap, .int .i64 d.size, .func (.func 62) #[] #[]] w (SoPost w blk off d) := by
  have hI := Lib.hid (insertion_c (w := w) (cap := cap) (a := 0) (b := d.size) (ai := 0) (bi := d.size) rfl rfl R rfl (SWK.start R.hH) (Nat.zero_le _) (Nat.le_refl _) (by omega))
  have h1 : ¬ (20 : Int) ≤ d.size := by omega
  have h2 : ¬ (20 : Int) < d.size := by omega
  have HS := Lib.hid hsm
  clear hsm
  go_enter Tryd.func72, Tryd.ntmps72
  go_wp2
  refine wp_loop_rounds 1 ?_
  rw [rounds_succ]
  go_wp2_with (go_at_call 84; refine (hI.out).mono ?_; rintro e w1 ⟨rfl, S1⟩)
  refine wp_loop_rounds 1 ?_
  rw [rounds_succ]
  go_wp2
  go_end0
  have h := (insertionSort_holds ltP_swo d 0 d.size (Nat.zero_le _) (Nat.le_refl _)).1
  exact ⟨rfl, _, h.1, h, fun _ => rfl, S1⟩

set_option maxHeartbeats 4000000 in
set_option maxRecDepth 1000000 in
theorem stable_big {w : World} {blk off cap : Nat} {d : Array Prp} (R : RowK Prp.cells 5 w blk off d) (hsm : 20 ≤ d.size) (hsz : d.size < 1152921504606846976) :
    Calls Tryd.prog 72 #[.slice (some ⟨blk, off, none⟩) d.size cap, .int .i64 d.size, .func (.func 62) #[] #[]] w (SoPost w blk off d) := by
  have S0 : Aside (SWP 5 w blk off d w) := SWP.refl (SWK.start R.hH)
  have SY := Lib.hid (fun a m b w' => symMerge_c (cap := cap) Tryd.isAgg48 Tryd.sizeOf48 R rfl (by omega) (b - a + 1) a m b w' (Nat.lt_succ_self _))
  have hz : (d.size : Int) ≤ 1152921504606846976 := by omega
  have hz2 : (20 : Int) ≤ d.size := by omega
  go_enter Tryd.func72, Tryd.ntmps72
  go_wp2
  go_loopg [7, 8] d.size (fun kx s7 s8 wr => ∃ a : Nat, s7 = .int .i64 a ∧ s8 = .int .i64 ((a : Int) + 20) ∧ a ≤ d.size ∧ d.size - a ≤ kx ∧ Aside (SWP 5 w blk off d wr))
  case atStart => exact ⟨0, rfl, rfl, Nat.zero_le _, Nat.le_refl _, S0⟩
  case round =>
    clear S0
    obtain ⟨a, rfl, rfl, ha, hkx, S0⟩ := hrel
    have ha0 : (0 : Int) ≤ a := by omega
    have ha1 : (a : Int) ≤ 1152921504606846976 := by omega
    by_cases hlt : a + 20 ≤ d.size
    · have hltz : (a : Int) + 20 ≤ (d.size : Int) := by omega
      go_wp2_with fail
      obtain ⟨dk, hd, HP, S1⟩ := S0.out
      have hI := insertion_c (w := wr) (cap := cap) (a := a) (b := a + 20) (ai := a) (bi := (a : Int) + 20) rfl (by omega) R hd.symm S1 (by omega) (by omega) (by omega)
      rw [hd] at hI
      refine hI.mono ?_
      rintro e w1 ⟨rfl, S2⟩
      have S3 : Aside (SWP 5 w blk off d w1) := ins_swp hd HP (by omega) hlt S2
      clear S2 hI S1 HP hd S0
      go_wp2
      go_roundg (d.size - (a + 20))
      case measure => omega
      case rel => exact ⟨a + 20, by go_num, by congr 1, hlt, Nat.le_refl _, S3⟩
    · have hltz : ¬ (a : Int) + 20 ≤ (d.size : Int) := by omega
      go_wp2_with fail
      obtain ⟨dk, hd, HP, S1⟩ := S0.out
      have hI := insertion_c (w := wr) (cap := cap) (a := a) (b := d.size) (ai := a) (bi := d.size) rfl rfl R hd.symm S1 ha (by omega) (by omega)
      rw [hd] at hI
      refine hI.mono ?_
      rintro e w1 ⟨rfl, S2⟩
      have S3 : Aside (SWP 5 w blk off d w1) := ins_swp hd HP ha (Nat.le_refl _) S2
      clear S2 hI S1 HP hd S0 hltz hlt ha0 ha1 hkx
      go_wp2_with fail
      go_loopg [6, 7, 8, 9] d.size (fun kx s6 _s7 _s8 _s9 wr => ∃ bs : Nat, s6 = .int .i64 bs ∧ 20 ≤ bs ∧ bs ≤ 2305843009213693952 ∧ d.size - bs ≤ kx ∧ Aside (SWP 5 w blk off d wr))
      case atStart => exact ⟨20, rfl, by omega, by omega, by omega, S3⟩
      case round =>
        clear S3
        obtain ⟨bs, rfl, hb1, hb2, hkx, S3⟩ := hrel
        have hb1z : (20 : Int) ≤ bs := by omega
        by_cases hlt : bs < d.size
        · have hltz : (bs : Int) < d.size := by omega
          have hbz : (bs : Int) ≤ 1152921504606846976 := by omega
          go_wp2_with fail
          go_loopg [7, 8] d.size (fun ky s7 s8 wr => ∃ a : Nat, s7 = .int .i64 a ∧ s8 = .int .i64 ((a : Int) + 2 * bs) ∧ a ≤ d.size ∧ d.size - a ≤ ky ∧ Aside (SWP 5 w blk off d wr))
          case atStart => exact ⟨0, rfl, by congr 1; omega, Nat.zero_le _, Nat.le_refl _, S3⟩
          case round =>
            clear S3
            obtain ⟨a, rfl, rfl, ha, hky, S0⟩ := hrel
            have ha0 : (0 : Int) ≤ a := by omega
            have ha1 : (a : Int) ≤ 1152921504606846976 := by omega
            by_cases hlt2 : a + 2 * bs ≤ d.size
            · have hltz2 : (a : Int) + 2 * bs ≤ (d.size : Int) := by omega
              go_wp2_with fail
              have hs := SY.out a (a + bs) (a + 2 * bs) _ (by omega) (by omega) hlt2 S0.out
              rw [show (((a + bs : Nat)) : Int) = (a : Int) + bs by omega, show (((a + 2 * bs : Nat)) : Int) = (a : Int) + 2 * bs by omega] at hs
              refine hs.mono ?_
              rintro e w2 ⟨rfl, S2⟩
              have S3 : Aside (SWP 5 w blk off d w2) := S2
              clear S2 S0 hs
              go_wp2
              go_roundg (d.size - (a + 2 * bs))
              case measure => omega
              case rel => exact ⟨a + 2 * bs, by congr 1, by congr 1, hlt2, Nat.le_refl _, S3⟩
            · have hltz2 : ¬ (a : Int) + 2 * bs ≤ (d.size : Int) := by omega
              by_cases hlt3 : a + bs < d.size
              · have hltz3 : (a : Int) + bs < (d.size : Int) := by omega
                go_wp2_with fail
                have hs := SY.out a (a + bs) d.size _ (by omega) hlt3 (Nat.le_refl _) S0.out
                rw [show (((a + bs : Nat)) : Int) = (a : Int) + bs by omega] at hs
                refine hs.mono ?_
                rintro e w2 ⟨rfl, S2⟩
                have S3 : Aside (SWP 5 w blk off d w2) := S2
                clear S2 S0 hs
                go_wp2
                go_roundg (d.size - 2 * bs)
                case measure => omega
                case rel => exact ⟨bs * 2, by congr 1, by omega, by omega, by omega, S3⟩
              · have hltz3 : ¬ (a : Int) + bs < (d.size : Int) := by omega
                go_wp2_with fail
                go_roundg (d.size - 2 * bs)
                case measure => omega
                case rel => exact ⟨bs * 2, by congr 1, by omega, by omega, by omega, S0⟩
        · have hltz : ¬ (bs : Int) < d.size := by omega
          go_wp2
          go_end0
          obtain ⟨dk, hd, HP, S1⟩ := S3.out
          exact ⟨rfl, dk, hd, HP, fun h => by omega, S1⟩

theorem stable_c {w : World} {blk off cap : Nat} {d : Array Prp} (R : RowK Prp.cells 5 w blk off d) (hsz : d.size < 1152921504606846976) :
    Calls Tryd.prog 72 #[.slice (some ⟨blk, off, none⟩) d.size cap, .int .i64 d.size, .func (.func 62) #[] #[]] w (SoPost w blk off d) := by
  by_cases h : d.size < 20
  · exact stable_small R h
  · exact stable_big R (by omega) hsz

set_option maxRecDepth 100000 in
theorem sortStable_c {w : World} {blk off cap : Nat} {d : Array Prp} (R : RowK Prp.cells 5 w blk off d) (hsz : d.size < 1152921504606846976) :
    Calls Tryd.prog 61 #[.slice (some ⟨blk, off, none⟩) d.size cap, .func (.func 62) #[] #[]] w (SoPost w blk off d) := by
  have hc := Lib.hid (stable_c (cap := cap) R hsz)
  go_enter Tryd.func61, Tryd.ntmps61
  go_wp2_with (go_at_call 72; refine (hc.out).mono ?_; rintro e w1 ⟨rfl, h1⟩)
  go_end0
  exact ⟨rfl, h1⟩

set_option maxRecDepth 100000 in
theorem insertion_nil {w : World} {fv : Value} : Calls Tryd.prog 84 #[.slice none 0 0, .int .i64 0, .int .i64 0, fv] w fun e w' => e = .returned (.tuple #[]) ∧ w = w' := by
  go_enter Tryd.func84, Tryd.ntmps84
  go_wp2
  refine wp_loop_rounds 1 ?_
  rw [rounds_succ]
  go_wp2
  go_end0
  exact ⟨rfl, rfl⟩
set_option maxRecDepth 100000 in
theorem stable_nil {w : World} {fv : Value} : Calls Tryd.prog 72 #[.slice none 0 0, .int .i64 0, fv] w fun e w' => e = .returned (.tuple #[]) ∧ w = w' := by
  have hI := Lib.hid (insertion_nil (w := w) (fv := fv))
  go_enter Tryd.func72, Tryd.ntmps72
  go_wp2
  refine wp_loop_rounds 1 ?_
  rw [rounds_succ]
  go_wp2_with (go_at_call 84; refine (hI.out).mono ?_; rintro e w1 ⟨rfl, rfl⟩)
  refine wp_loop_rounds 1 ?_
  rw [rounds_succ]
  go_wp2
  go_end0
  exact ⟨rfl, rfl⟩
set_option maxRecDepth 100000 in
theorem sortStable_nil {w : World} {fv : Value} :
    Calls Tryd.prog 61 #[.slice none 0 0, fv] w fun e w' => e = .returned (.tuple #[]) ∧ w = w' := by
  have hc := Lib.hid (stable_nil (w := w) (fv := fv))
  go_enter Tryd.func61, Tryd.ntmps61
  go_wp2_with (go_at_call 72; refine (hc.out).mono ?_; rintro e w1 ⟨rfl, rfl⟩)
  go_end0
  exact ⟨rfl, rfl⟩
end Go.Proofs.YteigbejidfkhpaaDoor
