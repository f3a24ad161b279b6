/- Layer 18: SframeOnce: the walk. (Printed by gen/sfq.py.) -/
import Derived.Test.YtfpdmgmolhddnaaDoorSfN
import Derived.Test.YtfpdmgmolhddnaaDoorSfO
namespace Go.Proofs.YtfpdmgmolhddnaaDoor
open Go Go.RowKit Go.Sort
open Go.ChangeShapes Go.WideShapes Go.Deep
set_option linter.unusedSimpArgs false
set_option linter.unusedVariables false

theorem npost_lit {f : Sfr} {n : Nat} {z : Int} {w : World} {e : Ending} {w' : World} (h : NPost (f, n, z) w e w') : Below w.heap.size w w' ∧ ∃ A cp, e = .returned (.tuple #[.agg #[.string ⟨f.cmd.toArray⟩, .slice A f.hs.length cp, .string ⟨f.body.toArray⟩], .int .i64 n, .int .i64 z]) ∧ RHd w' (.slice A f.hs.length cp) f.hs := h
theorem rhd_len {w : World} {A : Option Addr} {cp : Nat} {hs : List (L8 × L8)} (h : RHd w (.slice A hs.length cp) hs) : hs.length ≤ 9223372036854775807 := by
  obtain ⟨A', c', he, h1, h2, _⟩ := h
  omega
theorem cat_data (s t : ByteArray) : (s ++ t).data.toList = s.data.toList ++ t.data.toList := by simp
set_option maxRecDepth 100000 in
set_option maxHeartbeats 4000000 in
theorem sframeOnce_c {w : World} (s t : ByteArray) (hg : GM w) (hG : G w) :
    Calls Tryd.prog 3 #[.string s, .string t] w fun e w' => e = .returned (.bool true) ∧ Below w.heap.size w w' := by
  have HWK := Lib.hid (wakes_c hg hG)
  have HGM := Lib.hid hg
  have HG := Lib.hid hG
  clear hg hG
  go_enter Tryd.func3, Tryd.ntmps3
  go_wp2_with fail
  refine (HWK.out).mono ?_
  rintro e w1 ⟨rfl, b1⟩
  have B1 := Lib.hid b1
  clear b1 HWK
  by_cases h1 : (32768 : Int) < (s.size : Int)
  · go_wp2_with fail
    go_ret
    exact ⟨rfl, B1.out⟩
  by_cases h2 : (32768 : Int) < (t.size : Int)
  · go_wp2_with fail
    go_ret
    exact ⟨rfl, B1.out⟩
  have HS : Hid (s.size ≤ 32768) := Lib.hid (by omega)
  have HT : Hid (t.size ≤ 32768) := Lib.hid (by omega)
  have hnx : Calls Tryd.prog 6 #[.string s] w1 (NPost (nextP numT 41 40 s.data.toList) w1) := next_c (w := w1) s (by omega) (HGM.out.below B1.out) (HG.out.on B1.out)
  have hle := next_le (num := numT) (more := 41) (proto := 40) (by decide) (by decide) s.data.toList
  have hmo := next_more (num := numT) (more := 41) (proto := 40) (by decide) (by decide) s.data.toList
  have hon := next_once (num := numT) (more := 41) (proto := 40) (by decide) (by decide) s.data.toList t.data.toList
  obtain ⟨⟨f, n, z⟩, hx⟩ : ∃ x, x = nextP numT 41 40 s.data.toList := ⟨_, rfl⟩
  rw [← hx] at hnx hle hmo hon
  have HNX := Lib.hid (hnx.mono fun _ _ h => npost_lit h)
  have HLE := Lib.hid hle
  have HMO := Lib.hid hmo
  have HON := Lib.hid hon
  obtain ⟨cb, hcb⟩ : ∃ cb : ByteArray, cb = ⟨f.cmd.toArray⟩ := ⟨_, rfl⟩
  obtain ⟨bb, hbb⟩ : ∃ bb : ByteArray, bb = ⟨f.body.toArray⟩ := ⟨_, rfl⟩
  rw [← hcb, ← hbb] at HNX
  have HCB := Lib.hid hcb
  have HBB := Lib.hid hbb
  clear hx hnx hle hmo hon hcb hbb
  go_wp2_with fail
  refine (HNX.out).mono ?_
  rintro e w2 ⟨b2, A, cp, rfl, hr⟩
  have B2 := Lib.hid (B1.out.trans (b2.mono B1.out.size))
  have hsn : (n : Int) ≤ (s.size : Int) := by have h : n ≤ s.data.toList.length := HLE.out.1; rw [ba_size] at h; omega
  go_upto_region 6 with fail
  obtain ⟨V, hV⟩ : ∃ V, V = w2.alloc (.cells #[.string cb, .slice A f.hs.length cp, .string bb] 25) := ⟨_, rfl⟩
  rw [← hV]
  have bV : Below w2.heap.size w2 V := by rw [hV]; exact (Below.refl _ _).alloc (Nat.le_refl _) _
  have eV : V.heap[w2.heap.size]? = some (.cells #[.string cb, .slice A f.hs.length cp, .string bb] 25 (0, 0)) := by rw [hV]; exact heap_alloc_new w2 _
  have BV := Lib.hid (B2.out.trans (bV.mono B2.out.size))
  have HR := Lib.hid (rhd_below hr bV)
  have HEV : Hid (∀ w3, Below V.heap.size V w3 → w3.heap[w2.heap.size]? = some (.cells #[.string cb, .slice A f.hs.length cp, .string bb] 25 (0, 0))) := Lib.hid (fun w3 b => (b.block _ (Array.getElem?_eq_some_iff.1 eV).1).trans eV)
  clear hV bV eV hr b2 HNX
  by_cases hz : z = 41
  · have hzb : (z == 41) = true := beq_iff_eq.2 hz
    obtain ⟨m1, m2, m3⟩ := HMO.out hz
    have hba := blanks_all _ s.data.toList (Nat.le_refl _)
    have m2' : n = blanksP s.data.toList := m2
    rw [← m2'] at hba m3
    have HBA := Lib.hid hba.2.1
    have m1' : f = noF := m1
    have hcb0 : cb = ⟨#[]⟩ := by rw [HCB.out, m1']; rfl
    have HCB0 := Lib.hid hcb0
    have HM3 : Hid ((s.size : Int) - (n : Int) < 16384) := Lib.hid (by rw [ba_size] at m3; omega)
    clear m1 m1' m2 m2' m3 hba hcb0 hz
    go_wp2_with fail
    go_loopw [8] (fun i wr => ∃ k : Nat, k ≤ n ∧ i = .int .i64 k ∧ wr = V) (fun i _ => n - (intOf i).toNat)
    case atStart => exact ⟨0, Nat.zero_le _, rfl, rfl⟩
    case round =>
      obtain ⟨k, hk, rfl, rfl⟩ := hrel
      by_cases hlt : k < n
      · have hkn : (k : Int) < (n : Int) := by omega
        have hks : k < s.size := by omega
        have hksI : (k : Int) < (s.size : Int) := by omega
        have HLT := Lib.hid hlt
        have HWK1 := Lib.hid (wk1' k _ hks (by have := HS.out; omega))
        have hc : s[k]'hks = 10 ∨ s[k]'hks = 13 := HBA.out _ (by
          have h := ba_at s k hks
          refine List.mem_iff_getElem?.2 ⟨k, ?_⟩
          rw [List.getElem?_take, if_pos hlt]
          exact h)
        rcases hc with hc | hc
        · have c0 : ((s[k]'hks).toNat : Int) = 10 := by rw [hc]; rfl
          clear hc hlt hk
          go_wp2_with fail
          go_roundw
          case rel => exact ⟨k + 1, HLT.out, by first | rfl | (rw [HWK1.out]; rfl), by first | rfl | trivial⟩
          case measure => first | exact less1 HLT.out | (rw [HWK1.out]; exact less1 HLT.out)
        · have c0 : ((s[k]'hks).toNat : Int) = 13 := by rw [hc]; rfl
          clear hc hlt hk
          go_wp2_with fail
          go_roundw
          case rel => exact ⟨k + 1, HLT.out, by first | rfl | (rw [HWK1.out]; rfl), by first | rfl | trivial⟩
          case measure => first | exact less1 HLT.out | (rw [HWK1.out]; exact less1 HLT.out)
      · have hk2 : k = n := by omega
        subst hk2
        have x0 : wr.cell? ⟨w2.heap.size, 0, none⟩ = some (.string ⟨#[]⟩) := by rw [← HCB0.out]; exact (cell3 (HEV.out wr (Below.refl _ _)) 0).trans rfl
        have hk0 : (0 : Int) ≤ (k : Int) := by omega
        have hw : wrap64 ((s.size : Int) - (k : Int)) = (s.size : Int) - (k : Int) := by have := HS.out; unfold wrap64; omega
        have hw' : IntKind.i64.wrap ((s.size : Int) - (k : Int)) = (s.size : Int) - (k : Int) := by rw [IntKind.wrap_i64]; unfold wrap64 at hw; exact hw
        have h3 := HM3.out
        clear hlt hk
        go_wp2_with fail
        go_ret
        exact ⟨rfl, BV.out⟩
  · have hzb : (z == 41) = false := beq_eq_false_iff_ne.2 hz
    have hon := HON.out hz
    have hnx := next_c (w := V) (s ++ t) (by have := HS.out; have := HT.out; rw [ByteArray.size_append]; omega) (HGM.out.below BV.out) (HG.out.on BV.out)
    rw [cat_data, show nextQ (s.data.toList ++ t.data.toList) = (f, n, z) from hon] at hnx
    have HNY := Lib.hid (hnx.mono fun _ _ h => npost_lit h)
    rw [← HCB.out, ← HBB.out] at HNY
    have hsz : s.size + t.size ≤ 9223372036854775807 := by have := HS.out; have := HT.out; omega
    have HZ := Lib.hid hz
    clear hz hon hnx h1 h2
    go_wp2_with fail
    refine (HNY.out).mono ?_
    rintro e w3 ⟨b3, A2, cp2, rfl, hr2⟩
    go_upto_region 14 with fail
    obtain ⟨V2, hV2⟩ : ∃ V2, V2 = w3.alloc (.cells #[.string cb, .slice A2 f.hs.length cp2, .string bb] 25) := ⟨_, rfl⟩
    rw [← hV2]
    have b4 : Below w3.heap.size w3 V2 := by rw [hV2]; exact (Below.refl _ _).alloc (Nat.le_refl _) _
    have e4 : V2.heap[w3.heap.size]? = some (.cells #[.string cb, .slice A2 f.hs.length cp2, .string bb] 25 (0, 0)) := by rw [hV2]; exact heap_alloc_new w3 _
    have B4 := Lib.hid (b3.trans (b4.mono b3.size))
    have h5 := HEV.out V2 B4.out
    have x0 : V2.cell? ⟨w2.heap.size, 0, none⟩ = some (.string cb) := (cell3 h5 0).trans rfl
    have x1 : V2.cell? ⟨w2.heap.size, 1, none⟩ = some (.slice A f.hs.length cp) := (cell3 h5 1).trans rfl
    have x2 : V2.cell? ⟨w2.heap.size, 2, none⟩ = some (.string bb) := (cell3 h5 2).trans rfl
    have y0 : V2.cell? ⟨w3.heap.size, 0, none⟩ = some (.string cb) := (cell3 e4 0).trans rfl
    have y1 : V2.cell? ⟨w3.heap.size, 1, none⟩ = some (.slice A2 f.hs.length cp2) := (cell3 e4 1).trans rfl
    have y2 : V2.cell? ⟨w3.heap.size, 2, none⟩ = some (.string bb) := (cell3 e4 2).trans rfl
    have HSM := Lib.hid (same_eq (w := V2) cb bb f.hs (rhd_below HR.out B4.out) (rhd_below hr2 b4) (rhd_len hr2))
    have hnn : ((n : Int) == (n : Int)) = true := beq_self_eq_true _
    have hzz : (z == z) = true := beq_self_eq_true _
    clear hV2 b4 e4 h5 b3 hr2 HNY
    by_cases hz0 : z = 0
    · have hz0b : (z == 0) = true := beq_iff_eq.2 hz0
      have hn0 : (0 : Int) < (n : Int) := by have h : 0 < n := (HLE.out.2.1 hz0).1; omega
      clear hz0
      go_wp2_with fail
      refine (HSM.out).mono ?_
      rintro e w4 ⟨rfl, b5⟩
      go_wp2_with fail
      go_ret
      exact ⟨rfl, BV.out.trans ((B4.out.trans (b5.mono B4.out.size)).mono BV.out.size)⟩
    · have hz0b : (z == 0) = false := beq_eq_false_iff_ne.2 hz0
      have hn0 : ¬ (0 : Int) < (n : Int) := fun h => hz0 (HLE.out.2.2 ⟨show 0 < n by omega, HZ.out⟩)
      clear hz0
      go_wp2_with fail
      refine (HSM.out).mono ?_
      rintro e w4 ⟨rfl, b5⟩
      go_wp2_with fail
      go_ret
      exact ⟨rfl, BV.out.trans ((B4.out.trans (b5.mono B4.out.size)).mono BV.out.size)⟩
end Go.Proofs.YtfpdmgmolhddnaaDoor
