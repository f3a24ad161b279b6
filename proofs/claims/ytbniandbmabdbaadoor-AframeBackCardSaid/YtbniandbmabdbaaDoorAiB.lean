/- AframeBack: the statement's walk. -/
import Derived.Test.YtbniandbmabdbaaDoorAiA
import Derived.Test.YtbniandbmabdbaaDoorAhC
import Derived.Test.YtbniandbmabdbaaDoorAgQ
import Derived.Test.YtbniandbmabdbaaDoorTbH
import Derived.Test.YtbniandbmabdbaaDoorOpenP
namespace Go.Proofs.YtbniandbmabdbaaDoor
open Go Go.RowKit
set_option linter.unusedSimpArgs false
set_option linter.unusedVariables false

theorem fb_stay {w w1 : World} {F : Nat} {a b c : Value} (h : Af.FB w F a b c) {B : Nat} (hb : Below B w w1) (hF : F < B) : Af.FB w1 F a b c := by
  unfold Af.FB at h ⊢
  rw [hb.block F hF]
  exact h
theorem came_hf {ps : List Prp} (h : ∀ p ∈ ps, p.came) : ∀ p ∈ ps, p.r < 2 ^ 64 ∧ -9223372036854775808 ≤ p.n ∧ p.n ≤ 9223372036854775807 := fun p hp => ⟨(h p hp).2.2.1, (h p hp).2.2.2.1.1, (h p hp).2.2.2.1.2⟩
theorem bs_arr (l : List UInt8) : (⟨l.toArray⟩ : ByteArray) = bs l := rfl
theorem app_bs (l : List UInt8) (s : ByteArray) : (bs l ++ s).data.toList = l ++ s.data.toList := by
  rw [ByteArray.data_append, Array.toList_append]
  rfl

set_option maxRecDepth 1000000 in
set_option maxHeartbeats 2000000 in
theorem aframeBack_c {w : World} (t c : Int) (p more : ByteArray) {vl : Value} {ps : List Prp} (hp : RPr w vl ps) (hc : ∀ p ∈ ps, p.came) :
    Calls Tryd.prog 7 #[.agg #[.int .i64 t, .int .i64 c, .string p], .string more, vl] w fun e w' => e = .returned (.bool true) ∧ Below w.heap.size w w' := by
  have bW := (Below.refl w.heap.size w).alloc (Nat.le_refl _) (.cells #[.int .i64 t, .int .i64 c, .string p] 23)
  have F0 := Af.fb_new w (.int .i64 t) (.int .i64 c) (.string p)
  by_cases h0 : 32768 < p.size
  · have h0' : (32768 : Int) < p.size := by omega
    clear h0
    go_enter Tryd.func7, Tryd.ntmps7
    go_wp2_with fail
    refine Af.wakes_c.mono ?_
    rintro e w1 ⟨rfl, b1⟩
    obtain ⟨_, _, f2, _, _, _⟩ := Af.fb_facts (fb_stay F0 b1 (Af.fb_lt F0))
    go_wp2_with fail
    go_ret
    exact ⟨rfl, bW.trans (b1.mono bW.size)⟩
  have h0' : (p.size : Int) ≤ 32768 := by omega
  by_cases h1 : 4096 < more.size
  · have h1' : (4096 : Int) < more.size := by omega
    clear h0 h1
    go_enter Tryd.func7, Tryd.ntmps7
    go_wp2_with fail
    refine Af.wakes_c.mono ?_
    rintro e w1 ⟨rfl, b1⟩
    obtain ⟨_, _, f2, _, _, _⟩ := Af.fb_facts (fb_stay F0 b1 (Af.fb_lt F0))
    go_wp2_with fail
    go_ret
    exact ⟨rfl, bW.trans (b1.mono bW.size)⟩
  have h1' : (more.size : Int) ≤ 4096 := by omega
  have HP := Lib.hid hp
  have HC := Lib.hid hc
  have HM := Lib.hid (show more.size ≤ 4096 by omega)
  have HPZ := Lib.hid (show p.size ≤ 32768 by omega)
  clear h0 h1 hp hc
  go_enter Tryd.func7, Tryd.ntmps7
  go_wp2_with fail
  refine Af.wakes_c.mono ?_
  rintro e w1 ⟨rfl, b1⟩
  have F1 := fb_stay F0 b1 (Af.fb_lt F0)
  have B1 := bW.trans (b1.mono bW.size)
  have HF := Lib.hid F1
  obtain ⟨_, _, f2, _, _, _⟩ := Af.fb_facts F1
  have P1 := Lib.hid (rc_below HP.out B1)
  clear F0 bW b1 F1
  go_wp2_with fail
  refine (along_c P1.out (fun p hp => ⟨(HC.out p hp).1, (HC.out p hp).2.1⟩)).mono ?_
  rintro e w2 ⟨b, rfl, _, b2⟩
  have F2 := fb_stay HF.out b2 (Af.fb_lt HF.out)
  have B2 := B1.trans (b2.mono B1.size)
  have P2 := Lib.hid (rc_below HP.out B2)
  have HF2 := Lib.hid F2
  obtain ⟨g0, g1, g2, _, _, _⟩ := Af.fb_facts F2
  clear B1 b2 F2 f2 HF P1
  cases b with
  | true =>
    go_wp2_with fail
    go_ret
    exact ⟨rfl, B2⟩
  | false =>
  go_wp2_with fail
  refine (Af.encode_c t c p (by have := HPZ.out; omega)).mono ?_
  intro e w3 h3
  obtain ⟨b3, h3⟩ := h3
  have F3 := fb_stay HF2.out b3 (Af.fb_lt HF2.out)
  have B3 := B2.trans (b3.mono B2.size)
  have P3 := Lib.hid (rc_below HP.out B3)
  have HF3 := Lib.hid F3
  clear F3 g0 g1 g2 HF2 P2 B2
  by_cases hok : ¬ Af.encOk t c p = true
  · rw [if_neg hok] at h3
    subst h3
    go_wp2_with fail
    go_ret
    exact ⟨rfl, B3⟩
  replace hok := Decidable.of_not_not hok
  rw [if_pos hok] at h3
  obtain ⟨v3, rfl, o3⟩ := h3
  obtain ⟨f, hf⟩ : ∃ f : Af.Fr, f = ⟨t, c, p⟩ := ⟨_, rfl⟩
  have hfo : f.ok = true := by rw [hf]; exact hok
  obtain ⟨_, hc0, hc1, hpz⟩ := Af.fr_parts hfo
  have hfl : f.bytes.length = p.size + 8 := by rw [Af.fr_len, hf]
  have hc0' : 0 ≤ c := by rw [hf] at hc0; exact hc0
  have hc1' : c ≤ 65535 := by rw [hf] at hc1; exact hc1
  have hpz' : p.size ≤ 16384 := by rw [hf] at hpz; exact hpz
  have o3' : OB w3 w2.heap.size v3 f.bytes := by rw [hf]; exact o3
  have hNX := Af.nx_of hfo (s := bs f.bytes ++ more) (more := more.data.toList) (app_bs _ _)
  have hN2 : ∀ i : Nat, i < f.bytes.length → Af.nxA (bs (f.bytes.take i)) = .tuple #[.agg #[.int .i64 0, .int .i64 0, .string ByteArray.empty], .int .i64 0, .int .i64 41] := fun i hi => Af.nx_part hfo hi (bs_list _)
  rw [show f.t = t by rw [hf], show f.c = c by rw [hf], show f.p = p by rw [hf]] at hNX
  obtain ⟨l, hl⟩ : ∃ l, l = f.bytes := ⟨_, rfl⟩
  rw [← hl] at hNX hN2 o3' hfl
  obtain ⟨A3, c3, rfl, hc3, _⟩ := id (ob_rb o3')
  have O3 := Lib.hid o3'
  have HN2 := Lib.hid hN2
  have hS : (bs l ++ more).size ≤ 140737488351232 := by rw [ByteArray.size_append, bs_size]; have := HM.out; omega
  have HNX := Af.next_c (w := w3) (bs l ++ more) hS
  rw [hNX] at HNX
  have HN := Lib.hid HNX
  have hcv := rb_string (ob_rb o3')
  rw [bs_arr] at hcv
  have hLI : (l.length : Int) = p.size + 8 := by omega
  have hpI : (p.size : Int) ≤ 16384 := by omega
  have hLc : (l.length : Int) ≤ 16392 := by omega
  have hL0 : (8 : Int) ≤ l.length := by omega
  have HLI := Lib.hid hLI
  have hcat : (bs l).size + more.size ≤ 9223372036854775807 := by rw [bs_size]; have := HM.out; omega
  have hbsz : (bs l).size = l.length := bs_size l
  clear hf hfo hc0 hc1 hpz hok o3 o3' hNX hN2 hl hS HNX hfl hpz' h0' h1' hLI hpI
  go_wp2_with fail
  refine (HN.out).mono ?_
  rintro e w4 ⟨rfl, b4⟩
  have Fx := Af.fb_new w4 (.int .i64 t) (.int .i64 c) (.string p)
  have b4' := b4.alloc b4.size (.cells #[.int .i64 t, .int .i64 c, .string p] 23)
  have B4 := B3.trans (b4'.mono B3.size)
  have FF := fb_stay HF3.out b4' (Af.fb_lt HF3.out)
  have P4 := Lib.hid (rc_below P3.out b4')
  have O4 := Lib.hid (rb_below (ob_rb O3.out) b4')
  have HF4 := Lib.hid FF
  obtain ⟨g0, g1, g2, _, _, _⟩ := Af.fb_facts FF
  obtain ⟨x0, x1, x2, _, _, _⟩ := Af.fb_facts Fx
  clear FF Fx b4 b4' HF3 B3 P3 O3 HN hcat hbsz hcv
  go_wp2_with fail
  obtain ⟨wb, hwb⟩ : ∃ wb, wb = w4.alloc (.cells #[.int .i64 t, .int .i64 c, .string p] 23) := ⟨_, rfl⟩
  rw [← hwb] at B4 P4 O4 HF4 g0 g1 g2 x0 x1 x2
  rw [← hwb]
  clear hwb x0 x1 x2 g0 g1 g2
  obtain ⟨q, hq⟩ : ∃ q : Nat, q = l.length / 40 := ⟨_, rfl⟩
  have hqt : Int.tdiv (l.length : Int) 40 = q := by rw [hq, Int.tdiv_eq_ediv_of_nonneg (by omega)]; rfl
  have hq1 : (q : Int) ≤ 409 := by omega
  have hLN := Lib.hid (show l.length ≤ 16392 by omega)
  clear hq
  go_loopw [8, 10, 11] (fun e n i wr => ∃ (k : Nat) (e1 n1 : Int), e = .int .i64 e1 ∧ n = .int .i64 n1 ∧ i = .int .i64 k ∧ k ≤ 16802 ∧ Below wb.heap.size wb wr) (fun _ _ i _ => l.length - (intOf i).toNat)
  case atStart => exact ⟨0, 0, l.length, rfl, rfl, rfl, by omega, Below.refl _ _⟩
  case round =>
    obtain ⟨k, e1, n1, rfl, rfl, rfl, hk, b5⟩ := hrel
    by_cases hlt : k < l.length
    · have hkI : (k : Int) < l.length := by omega
      have hkc : (k : Int) ≤ c3 := by omega
      have hcv := rb_string (rb_take (rb_below O4.out b5) rfl k (by omega))
      rw [bs_arr] at hcv
      have hnx := Af.next_c (w := wr) (bs (l.take k)) (by rw [bs_size, List.length_take]; have := hLN.out; omega)
      rw [HN2.out k hlt] at hnx
      have HNX := Lib.hid hnx
      have HLT := Lib.hid hlt
      have hw1 : IntKind.i64.wrap (1 + (q : Int)) = 1 + q := IntWalk.i64_in _ (by omega)
      have hw2 : IntKind.i64.wrap ((k : Int) + (1 + (q : Int))) = k + (1 + q) := IntWalk.i64_in _ (by omega)
      clear hnx hlt
      go_wp2_with fail
      refine (HNX.out).mono ?_
      rintro e w6 ⟨rfl, b6⟩
      go_wp2_with fail
      go_roundw
      case rel => exact ⟨k + (1 + q), _, _, rfl, rfl, by first | rfl | (simp; done) | go_num, by have := HLT.out; have := hLN.out; omega, b5.trans (b6.mono b5.size)⟩
      case measure => have := HLT.out; simp [intOf]; omega
    · have hge : (l.length : Int) ≤ k := by omega
      have HF5 := fb_stay HF4.out b5 (Af.fb_lt HF4.out)
      obtain ⟨g0, g1, g2, _, _, _⟩ := Af.fb_facts HF5
      have B5 := B4.trans (b5.mono B4.size)
      have P5 := Lib.hid (rc_below P4.out b5)
      obtain ⟨d, hd⟩ : ∃ d : Bool, d = (c % 2 == 1) := ⟨_, rfl⟩
      have hd' := hd.symm
      have HF6 := Lib.hid HF5
      clear hlt hd O4 b5 HF5
      go_wp2_with fail
      refine (ahead_c (w := wr) (p.size : Int) d P5.out (fun p hp => (HC.out p hp).1) (fun p hp => (HC.out p hp).2.2.1)).mono ?_
      intro e w6 h6
      obtain ⟨b6, h6⟩ := h6
      have B6 := B5.trans (b6.mono B5.size)
      have P6 := Lib.hid (rc_below P5.out b6)
      have HF7 := fb_stay HF6.out b6 (Af.fb_lt HF6.out)
      clear HF6 P5 B5 g0 g1 g2
      by_cases hz : p.size ≤ 1024
      · rw [if_pos (show (0 : Int) ≤ p.size ∧ (p.size : Int) ≤ 1024 by omega)] at h6
        have hzI : (p.size : Int) ≤ 1024 := by omega
        by_cases hv : validB ps = true
        · rw [if_pos hv] at h6
          obtain ⟨v6, rfl, o6⟩ := h6
          have hrb := rh_back (n := p.size) (d := d) hz hv (came_hf HC.out)
          obtain ⟨hd6, hhd⟩ : ∃ x, x = headB p.size ps d := ⟨_, rfl⟩
          have o6' : OB w6 wr.heap.size v6 hd6 := by rw [hhd]; exact o6
          rw [← hhd] at hrb
          have hcv := rb_string (ob_rb o6')
          rw [bs_arr] at hcv
          have hsz : (bs hd6).size ≤ 1073741824 := by
            rw [bs_size, hhd]
            have := props_small hv
            unfold headB putB
            split <;> simp only [List.length_append, beB_len, List.length_nil] <;> omega
          have HR := readHead_c (w := w6) (bs hd6) hsz
          rw [hrb] at HR
          have HRR := Lib.hid HR
          clear hrb HR hz hv o6 o6' hhd hsz
          go_wp2_with fail
          refine (HRR.out).mono ?_
          intro e w7 h7
          obtain ⟨b7, v7, rfl, o7⟩ := h7
          have HS := Lib.hid (sameAll_c (ownP_rpr o7) (rc_below P6.out b7))
          have HF8 := fb_stay HF7 b7 (Af.fb_lt HF7)
          have B7 := B6.trans (b7.mono B6.size)
          clear o7 b7
          go_wp2_with fail
          refine (HS.out).mono ?_
          rintro e w8 ⟨b, rfl, hb, b8⟩
          obtain rfl : b = true := by first | exact hb.2 trivial | exact hb.2 rfl | exact hb
          obtain ⟨g0, g1, g2, _, _, _⟩ := Af.fb_facts (fb_stay HF8 b8 (Af.fb_lt HF8))
          go_wp2_with fail
          go_ret
          exact ⟨rfl, B7.trans (b8.mono B7.size)⟩
        · rw [if_neg hv] at h6
          subst h6
          go_wp2_with fail
          go_ret
          exact ⟨rfl, B6⟩
      · rw [if_neg (show ¬ ((0 : Int) ≤ p.size ∧ (p.size : Int) ≤ 1024) by omega)] at h6
        have hzI : (1024 : Int) < p.size := by omega
        subst h6
        clear hz
        go_wp2_with fail
        go_ret
        exact ⟨rfl, B6⟩
end Go.Proofs.YtbniandbmabdbaaDoor
