/- Layer 7: what the statements' 'wakes' looks at. -/
import Derived.Test.YtcehkaombanhaaaGreatDoorCorB
import Derived.Test.YtcehkaombanhaaaGreatDoorPaA
namespace Go.Proofs.YtcehkaombanhaaaGreatDoor
open Go Go.RowKit
open Go.ChangeShapes Go.WideShapes Go.Deep Go.Sort
set_option linter.unusedSimpArgs false
set_option linter.unusedVariables false

theorem rb_nil' (w : World) : RB w (.slice none 0 0) [] := ob_rb (ob_nil w 0)

set_option maxRecDepth 100000 in
set_option maxHeartbeats 1000000 in
theorem textI_c {w : World} (hG : G w) (n : Int) (h0 : -9223372036854775808 ≤ n) (h1 : n ≤ 9223372036854775807) :
    Calls Tryz.prog 20 #[.agg #[.int .i64 1, .int .i64 n, .string ByteArray.empty, .float .f64 0]] w fun e w' => e = .returned (.tuple #[.string ((⟨#[105]⟩ : ByteArray) ++ ⟨(Lib.itoa n).toArray⟩), .int .i64 0]) ∧ Below w.heap.size w w' := by
  have HG := Lib.hid hG
  have hil := Lib.itoa_length_le n h0 h1
  have HI := Lib.hid (fun W (g : G W) => itoa_c n h0 h1 g)
  obtain ⟨s, hs⟩ : ∃ s : ByteArray, s = ⟨(Lib.itoa n).toArray⟩ := ⟨_, rfl⟩
  have hss : s.size = (Lib.itoa n).length := by rw [hs]; rfl
  have hcat : (⟨#[105]⟩ : ByteArray).size + s.size ≤ 9223372036854775807 := by rw [hss]; show 1 + _ ≤ _; omega
  rw [← hs] at HI ⊢
  clear hs hss hil
  have hgd : goodB 1 n ByteArray.empty 0 = true := by unfold goodB; simp
  have b0 := (Below.refl w.heap.size w).alloc (Nat.le_refl _) (.cells #[.int .i64 1, .int .i64 n, .string ByteArray.empty, .float .f64 0] 24)
  obtain ⟨W, hW⟩ : ∃ W, W = w.alloc (.cells #[.int .i64 1, .int .i64 n, .string ByteArray.empty, .float .f64 0] 24) := ⟨_, rfl⟩
  have y0 : W.cell? ⟨w.heap.size, 0, none⟩ = some (.int .i64 1) := by rw [hW]; exact new_cell 0 _ rfl
  have y1 : W.cell? ⟨w.heap.size, 1, none⟩ = some (.int .i64 n) := by rw [hW]; exact new_cell 1 _ rfl
  have y2 : W.cell? ⟨w.heap.size, 2, none⟩ = some (.string ByteArray.empty) := by rw [hW]; exact new_cell 2 _ rfl
  have y3 : W.cell? ⟨w.heap.size, 3, none⟩ = some (.float .f64 0) := by rw [hW]; exact new_cell 3 _ rfl
  have hsW : w.heap.size < W.heap.size := by rw [hW]; simp
  have HC := Lib.hid (good_c (w := W) 1 n ByteArray.empty 0)
  rw [hgd] at HC
  rw [← hW] at b0
  have HWW := Lib.hid hW
  clear hG hgd hW
  go_enter Tryz.func20, Tryz.ntmps20
  go_upto_region 1 with fail
  rw [← HWW.out]
  go_wp2_with fail
  refine (HC.out).mono ?_
  rintro e w1 ⟨rfl, b1⟩
  have y0 := cell_below b1 hsW y0
  have y1 := cell_below b1 hsW y1
  go_wp2_with fail
  refine (HI.out _ (HG.out.below HG.out.sz (b0.trans (b1.mono b0.size)))).mono ?_
  rintro e w2 ⟨rfl, b2⟩
  have b3 := (b0.trans (b1.mono b0.size)).trans (b2.mono (b0.trans (b1.mono b0.size)).size)
  go_wp2_with fail
  go_ret2
  exact ⟨rfl, b3⟩

set_option maxRecDepth 100000 in
set_option maxHeartbeats 1000000 in
theorem run_c {w : World} {base : Nat} {v : Value} {l : List UInt8} (hG : G w) (hO : OB w base v l) (hB : base ≤ w.heap.size) (hNG : NG ≤ base) (s : ByteArray) (hl : l.length + s.size ≤ 35184372088832) :
    Calls Tryz.prog 59 #[v, .string s] w fun e w' => ∃ v', e = .returned v' ∧ OB w' base v' (l ++ strB s.data.toList) ∧ Below base w w' := by
  have HO := Lib.hid hO
  have HS := Lib.hid (cordStr_c hG (rb_nil' w) s (by simp; omega))
  have hsl : (strB s.data.toList).length ≤ s.size + 30 := by
    have := Lib.itoa_length_le (s.size : Int) (by omega) (by omega)
    have e : s.data.toList.length = s.size := by rw [Array.length_toList]; rfl
    simp only [strB, List.length_append, List.length_cons, List.length_nil, e]
    omega
  have HL := Lib.hid hsl
  clear hG hO hsl
  go_enter Tryz.func59, Tryz.ntmps59
  go_wp2_with (first
    | (go_at_call 95; refine (HS.out).mono ?_; rintro e w2 ⟨v2, rfl, o2, b2⟩; have O2 := Lib.hid o2; clear o2)
    | (at_builtin; refine app_b (w0 := w) (base := base) (l := l) (m := [] ++ strB s.data.toList) rfl (.tmp 5) (.tmp 7) rfl rfl rfl (own_below HO.out b2) (ob_rb O2.out) (b2.mono hB) (Nat.le_trans hB b2.size) (by have := HL.out; simp only [List.nil_append]; omega) ?_; intro v4 w4 o4 b4 _ _; have O4 := Lib.hid o4; clear o4))
  go_ret
  exact ⟨v4, rfl, by simpa using O4.out, b4⟩

theorem ri_one (w : World) (n : Int) : RI (w.alloc (.cells #[.int .i64 n] 3)) (.slice (some ⟨w.heap.size, 0, none⟩) 1 1) [n] := rc_new w 3 1 1 [.int .i64 n] rfl (by omega)
/-- The one property of wakes. -/
def pW : Prp := ⟨⟨#[97]⟩, 1, 7, ByteArray.empty, 0⟩
theorem pW_valid : validB [pW] = true := by decide +kernel
theorem pW_bytes : ([] ++ numsB [((1 : Nat) : Int)]) ++ strB [97] ++ strB ((⟨#[105]⟩ : ByteArray) ++ ⟨(Lib.itoa 7).toArray⟩).data.toList = [49, 59, 49, 58, 97, 44, 50, 58, 105, 55, 44] := by decide +kernel

set_option maxRecDepth 100000 in
set_option maxHeartbeats 2000000 in
theorem encodeW_c {w : World} {A : Option Addr} {c : Nat} (hG : G w) (hp : RPr w (.slice A 1 c) [pW]) :
    Calls Tryz.prog 27 #[.slice A 1 c] w fun e w' => ∃ v', e = .returned (.tuple #[v', .int .i64 0]) ∧ OB w' w.heap.size v' [49, 59, 49, 58, 97, 44, 50, 58, 105, 55, 44] ∧ Below w.heap.size w w' := by
  have HG := Lib.hid hG
  have HV := Lib.hid (valid_c hp (by intro p h; simp at h; subst h; decide))
  rw [pW_valid] at HV
  have HN := Lib.hid (fun (w1 : World) (b : Below w.heap.size w w1) => cordNum_c (w := w1.alloc (.cells #[.int .i64 1] 3)) ((HG.out.below HG.out.sz b).below HG.out.sz ((Below.refl _ _).alloc (by have := b.size; exact this) _)) (rb_nil' _) (ri_one w1 1) (by intro n hn; simp at hn; omega) (by simp))
  obtain ⟨A', c', he, hnc, hcell⟩ := props_at hp
  injection he with e1 e2 e3
  subst e1 e3
  clear e2
  obtain ⟨a, rfl, q0, q1, q2, q3, q4⟩ := hcell 0 pW rfl
  have ha : a.add (0 * 5) = a := by unfold Addr.add; simp
  rw [ha] at q0 q1 q2 q3 q4
  have Q0 := Lib.hid q0
  have Q1 := Lib.hid q1
  have Q2 := Lib.hid q2
  have Q3 := Lib.hid q3
  have Q4 := Lib.hid q4
  clear hG hp hcell hnc ha q0 q1 q2 q3 q4
  go_enter Tryz.func27, Tryz.ntmps27
  go_wp2_with fail
  refine (HV.out).mono ?_
  rintro e w1 ⟨rfl, b1⟩
  go_wp2_with fail
  refine (HN.out _ b1).mono ?_
  rintro e w2 ⟨v2, rfl, o2, b2⟩
  have B2 := (b1.alloc b1.size (.cells #[.int .i64 1] 3)).trans (b2.mono (Nat.le_trans b1.size (by simp)))
  have O2 := Lib.hid (own_lower o2 (Nat.le_trans b1.size (by simp)) : OB w2 w.heap.size v2 _)
  clear o2 b2
  have HT := Lib.hid (fun (w : World) (g : G w) => textI_c g 7 (by omega) (by omega))
  obtain ⟨s, hs⟩ : ∃ s : ByteArray, s = (⟨#[105]⟩ : ByteArray) ++ ⟨(Lib.itoa 7).toArray⟩ := ⟨_, rfl⟩
  have hbytes := pW_bytes
  rw [← hs] at hbytes
  have HT' : Hid (∀ w : World, G w → Calls Tryz.prog 20 #[.agg #[.int .i64 1, .int .i64 7, .string ByteArray.empty, .float .f64 0]] w fun e w' => e = .returned (.tuple #[.string s, .int .i64 0]) ∧ Below w.heap.size w w') := Lib.hid (fun w g => by rw [hs]; exact HT.out w g)
  have hsz : s.size = 2 := by rw [hs]; decide +kernel
  have HSZ := Lib.hid hsz
  have HBY := Lib.hid hbytes
  clear hs hbytes HT HN HV hsz
  go_wp2_with fail
  go_loopw [4, 18] (fun b i wr => ∃ k : Nat, k ≤ 1 ∧ i = .int .i64 k ∧ Hid (OB wr w.heap.size b (if k = 0 then [] ++ numsB [((1 : Nat) : Int)] else [49, 59, 49, 58, 97, 44, 50, 58, 105, 55, 44])) ∧ Below w.heap.size w wr) (fun _ i _ => 1 - (intOf i).toNat)
  case atStart => exact ⟨0, Nat.zero_le _, rfl, O2, B2⟩
  case round =>
    obtain ⟨k, hk, rfl, O3, b3⟩ := hrel
    clear O2 B2
    rcases Nat.lt_or_ge k 1 with hlt | hge
    · obtain rfl : k = 0 := by omega
      have q0 := cell_below b3 (World.block_lt_of_cell? w _ Q0.out) Q0.out
      have q1 := cell_below b3 (World.block_lt_of_cell? w _ Q1.out) Q1.out
      have q2 := cell_below b3 (World.block_lt_of_cell? w _ Q2.out) Q2.out
      have q3 := cell_below b3 (World.block_lt_of_cell? w _ Q3.out) Q3.out
      have q4 := cell_below b3 (World.block_lt_of_cell? w _ Q4.out) Q4.out
      simp only [pW] at q0 q1 q2 q3 q4
      have b4 := b3.alloc b3.size (.cells #[.string ⟨#[97]⟩, .int .i64 1, .int .i64 7, .string ByteArray.empty, .float .f64 0] 32)
      obtain ⟨W, hW⟩ : ∃ W, W = wr.alloc (.cells #[.string ⟨#[97]⟩, .int .i64 1, .int .i64 7, .string ByteArray.empty, .float .f64 0] 32) := ⟨_, rfl⟩
      have y0 : W.cell? ⟨wr.heap.size, 0, none⟩ = some (.string ⟨#[97]⟩) := by rw [hW]; exact new_cell 0 _ rfl
      have y1 : W.cell? ⟨wr.heap.size, 1, none⟩ = some (.int .i64 1) := by rw [hW]; exact new_cell 1 _ rfl
      have y2 : W.cell? ⟨wr.heap.size, 2, none⟩ = some (.int .i64 7) := by rw [hW]; exact new_cell 2 _ rfl
      have y3 : W.cell? ⟨wr.heap.size, 3, none⟩ = some (.string ByteArray.empty) := by rw [hW]; exact new_cell 3 _ rfl
      have y4 : W.cell? ⟨wr.heap.size, 4, none⟩ = some (.float .f64 0) := by rw [hW]; exact new_cell 4 _ rfl
      have hsW : wr.heap.size < W.heap.size := by rw [hW]; simp
      have O4 := Lib.hid (show OB W w.heap.size u4 ([] ++ numsB [((1 : Nat) : Int)]) by rw [hW]; exact O3.out.alloc _)
      rw [← hW] at b4
      have HWW := Lib.hid hW
      have qs := store_float (P := Tryz.prog)
      clear hW O3
      go_upto_region 7 with fail
      rw [← HWW.out]
      go_wp2_with fail
      refine (HT'.out _ (HG.out.below HG.out.sz b4)).mono ?_
      rintro e w5 ⟨rfl, b5⟩
      have y0 := cell_below b5 hsW y0
      have B5 := b4.trans (b5.mono b4.size)
      have O5 := Lib.hid (own_below O4.out b5)
      go_wp2_with fail
      refine (run_c (HG.out.below HG.out.sz B5) O5.out B5.size HG.out.sz ⟨#[97]⟩ (by decide +kernel)).mono ?_
      rintro e w6 ⟨v6, rfl, o6, b6⟩
      have B6 := B5.trans b6
      have O6 := Lib.hid o6
      clear o6
      go_wp2_with fail
      refine (run_c (HG.out.below HG.out.sz B6) O6.out B6.size HG.out.sz s (by rw [HSZ.out]; decide +kernel)).mono ?_
      rintro e w7 ⟨v7, rfl, o7, b7⟩
      have B7 := B6.trans b7
      have o7' : OB w7 w.heap.size v7 [49, 59, 49, 58, 97, 44, 50, 58, 105, 55, 44] := by rw [← HBY.out]; exact o7
      have O7 := Lib.hid o7'
      clear o7 o7'
      go_wp2_with fail
      go_roundw
      case rel => exact ⟨1, Nat.le_refl _, rfl, O7, B7⟩
      case measure => decide
    · obtain rfl : k = 1 := by omega
      go_wp2_with fail
      go_ret2
      exact ⟨_, rfl, O3.out, b3⟩

theorem pW_row (w : World) : RPr (w.alloc (.cells #[.string ⟨#[97]⟩, .int .i64 1, .int .i64 7, .string ByteArray.empty, .float .f64 0] 32)) (.slice (some ⟨w.heap.size, 0, none⟩) 1 1) [pW] :=
  rc_new w 32 1 5 (pW.cells) rfl (by omega)

set_option maxRecDepth 100000 in
set_option maxHeartbeats 2000000 in
theorem wakes_c {w : World} (hG : G w) :
    Calls Tryz.prog 9 #[] w fun e w' => e = .returned (.bool true) ∧ Below w.heap.size w w' := by
  have HG := Lib.hid hG
  have b1 := (Below.refl w.heap.size w).alloc (Nat.le_refl _) (.cells #[.string ⟨#[97]⟩, .int .i64 1, .int .i64 7, .string ByteArray.empty, .float .f64 0] 32)
  have HE : Hid (Calls Tryz.prog 27 #[.slice (some ⟨w.heap.size, 0, none⟩) 1 1] (w.alloc (.cells #[.string ⟨#[97]⟩, .int .i64 1, .int .i64 7, .string ⟨#[]⟩, .float .f64 0] 32)) fun e w' => ∃ v', e = .returned (.tuple #[v', .int .i64 0]) ∧ RB w' v' [49, 59, 49, 58, 97, 44, 50, 58, 105, 55, 44] ∧ Below w.heap.size w w') := Lib.hid ((encodeW_c (HG.out.below HG.out.sz b1) (pW_row w)).mono fun e w' ⟨v', h1, h2, h3⟩ => ⟨v', h1, ob_rb h2, b1.trans (h3.mono b1.size)⟩)
  have HT := Lib.hid (fun (w : World) (g : G w) => textI_c g (-5) (by omega) (by omega))
  rw [show (⟨#[105]⟩ : ByteArray) ++ ⟨(Lib.itoa (-5)).toArray⟩ = ⟨#[105, 45, 53]⟩ by decide +kernel] at HT
  have HT' : Hid (∀ w : World, G w → Calls Tryz.prog 20 #[.agg #[.int .i64 1, .int .i64 (-5), .string ⟨#[]⟩, .float .f64 0]] w fun e w' => e = .returned (.tuple #[.string ⟨#[105, 45, 53]⟩, .int .i64 0]) ∧ Below w.heap.size w w') := Lib.hid HT.out
  clear hG b1 HT
  go_enter Tryz.func9, Tryz.ntmps9
  go_wp2_with fail
  refine (HE.out).mono ?_
  rintro e w1 ⟨v1, rfl, r1, b1⟩
  have R1 := Lib.hid r1
  clear r1
  go_wp2_with fail
  refine (HT'.out _ (HG.out.below HG.out.sz b1)).mono ?_
  rintro e w2 ⟨rfl, b2⟩
  have B2 := b1.trans (b2.mono b1.size)
  have hcv := rb_string (rb_below R1.out b2)
  go_wp2_with fail
  go_ret
  exact ⟨rfl, B2⟩
end Go.Proofs.YtcehkaombanhaaaGreatDoor
