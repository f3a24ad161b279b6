/- Layer 1: the walk of the reference's 'word'. -/
import Derived.Test.YtndklgbjpdlegaaDoorCordD
namespace Go.Proofs.YtndklgbjpdlegaaDoor
open Go Go.RowKit
set_option linter.unusedSimpArgs false
set_option linter.unusedVariables false

theorem indexByte_none : ∀ (l : List UInt8) (m : UInt8), (∀ j, j < l.length → l[j]? ≠ some m) → Lib.indexByte l m = -1
  | [], m, _ => rfl
  | b :: l, m, h => by
    have hb : (b == m) = false := by
      have := h 0 (by simp)
      simp at this
      simpa using this
    have ih := indexByte_none l m (fun j hj => by have := h (j + 1) (by simp; omega); simpa using this)
    simp [Lib.indexByte, hb, ih]

theorem indexByte_at : ∀ (l : List UInt8) (m : UInt8) (k : Nat), l[k]? = some m → (∀ j, j < k → l[j]? ≠ some m) → Lib.indexByte l m = k
  | [], m, k, h, _ => by simp at h
  | b :: l, m, 0, h, _ => by simp at h; subst h; simp [Lib.indexByte]
  | b :: l, m, k + 1, h, hj => by
    have hb : (b == m) = false := by
      have := hj 0 (by omega)
      simp at this
      simpa using this
    have ih := indexByte_at l m k (by simpa using h) (fun j hjk => by have := hj (j + 1) (by omega); simpa using this)
    have : ((k : Int) == -1) = false := beq_eq_false_iff_ne.2 (by omega)
    simp [Lib.indexByte, hb, ih, this]

theorem atoi_any (l : List UInt8) (hl : l.length ≤ 70368744177664) {w : World} (hG : G w) :
    Calls Tryd.prog 36 #[.string ⟨l.toArray⟩] w fun e w' => (∃ v, e = .returned (.tuple #[.int .i64 (atoiV l), v])) ∧ Below w.heap.size w w' := by
  by_cases hok : ∃ n, Lib.atoiAll l = .ok n
  · obtain ⟨n, hn⟩ := hok
    refine (atoi_ok l hl n hn w).mono fun e w' ⟨he, hb⟩ => ⟨⟨.nilIface, ?_⟩, hb⟩
    rw [he]; simp [atoiV, hn]
  · refine (atoi_bad l hl (fun n hn => hok ⟨n, hn⟩) hG).mono fun e w' ⟨⟨N, he⟩, hb⟩ => ⟨⟨_, he⟩, hb⟩

theorem atoiV_bounds (l : List UInt8) : -9223372036854775808 ≤ atoiV l ∧ atoiV l ≤ 9223372036854775807 := by
  unfold atoiV
  split
  · rename_i n h; exact Lib.atoiAll_bounds h
  · exact Lib.atoiSat_bounds l
  · omega

theorem canon_iff (l : List UInt8) (h : Lib.itoa (atoiV l) = l) : canonB l = some (atoiV l) := by
  unfold canonB
  cases hc : Lib.atoiAll l with
  | ok n =>
    have e : atoiV l = n := by unfold atoiV; rw [hc]
    rw [e] at h ⊢
    simp only [if_pos h]
  | range =>
    have e : atoiV l = Lib.atoiSat l := by unfold atoiV; rw [hc]
    rw [e] at h
    have hs : Lib.atoiSat l = -9223372036854775808 ∨ Lib.atoiSat l = 9223372036854775807 := by unfold Lib.atoiSat; split <;> simp
    rcases hs with hs | hs
    · rw [hs] at h
      rw [← h] at hc
      exact absurd hc (by decide +kernel)
    · rw [hs] at h
      rw [← h] at hc
      exact absurd hc (by decide +kernel)
  | _ =>
    have e : atoiV l = 0 := by unfold atoiV; rw [hc]
    rw [e] at h
    rw [← h] at hc
    exact absurd hc (by decide +kernel)

theorem canon_none (l : List UInt8) (h : ¬ Lib.itoa (atoiV l) = l) : canonB l = none := by
  unfold canonB
  split
  · rename_i n hc
    have e : atoiV l = n := by unfold atoiV; rw [hc]
    rw [e] at h
    rw [if_neg h]
  · rfl

theorem digR_none (m : UInt8) (l : List UInt8) (h : ∀ j, j < l.length → j ≤ 20 → l[j]? ≠ some m) : digR m l = (0, false, l) := by
  unfold digR
  rw [indexByte_none (l.take 21) m (fun j hj => by
    rw [List.length_take] at hj
    rw [List.getElem?_take_of_lt (by omega)]
    exact h j (by omega) (by omega))]
  simp

theorem digR_at (m : UInt8) (l : List UInt8) (k : Nat) (hk : k ≤ 20) (hm : l[k]? = some m) (h : ∀ j, j < k → l[j]? ≠ some m) :
    digR m l = (match canonB (l.take k) with | some n => (n, true, l.drop (k + 1)) | none => (0, false, l)) := by
  unfold digR
  rw [indexByte_at (l.take 21) m k (by rw [List.getElem?_take_of_lt (by omega)]; exact hm) (fun j hj => by
    rw [List.getElem?_take_of_lt (by omega)]
    exact h j hj)]
  rw [if_neg (by omega)]
  simp only [Int.toNat_natCast]
  cases canonB (l.take k) <;> rfl

set_option maxRecDepth 100000 in
set_option maxHeartbeats 2000000 in
theorem word_c {w : World} {S : Nat → Prop} {R : Nat} {l : List UInt8} {bad : Bool} (hG : G w) (h : Rd 38 S w R l bad) (m : UInt8) :
    Calls Tryd.prog 31 #[.pointer (some ⟨R, 0, none⟩), .int .u8 m.toNat] w (DigPost 38 S w R l bad m) := by
  obtain ⟨A, c, hR, hb, hl, hA, _⟩ := id h
  have h1 : l.length ≤ c := by obtain ⟨_, _, he, h1, _⟩ := id hb; injection he with _ _ e3; omega
  have HRd := Lib.hid h
  have HB := Lib.hid hb
  have HG := Lib.hid hG
  have HA := Lib.hid hA
  have c0 : w.cell? ⟨R, 0, none⟩ = some (.slice A l.length c) := by simp [World.cell?, hR]
  have f0 : w.frozen? ⟨R, 0, none⟩ = false := by simp [World.frozen?, hR]
  have hRlt : R < w.heap.size := (Array.getElem?_eq_some_iff.1 hR).1
  clear hb hG h hA hR
  go_enter Tryd.func31, Tryd.ntmps31
  go_wp2
  go_loop [6] (fun i => ∃ k : Nat, k ≤ l.length ∧ k ≤ 21 ∧ i = .int .i64 k ∧ Hid (∀ j, j < k → l[j]? ≠ some m)) (fun i => 21 - (intOf i).toNat)
  case atStart => exact ⟨0, Nat.zero_le _, by omega, rfl, fun j hj => by omega⟩
  case round =>
    obtain ⟨k, hk, hk21, rfl, HJ⟩ := hrel
    by_cases hlt : k < l.length ∧ k ≤ 20
    · obtain ⟨hkl, hk20⟩ := hlt
      obtain ⟨x, hx⟩ : ∃ x, l[k]? = some x := ⟨_, List.getElem?_eq_getElem hkl⟩
      obtain ⟨a, rfl, hc⟩ := rb_cell HB.out k x hx
      by_cases hxm : x = m
      · subst hxm
        obtain ⟨wd, hwd⟩ : ∃ wd, wd = l.take k := ⟨_, rfl⟩
        have hwl : wd.length ≤ 70368744177664 := by rw [hwd, List.length_take]; omega
        have hcv := rb_string (rb_take HB.out rfl k (by omega))
        rw [← hwd] at hcv
        have HWD := Lib.hid hwd
        obtain ⟨A', hdr, hdr2, hdr3⟩ := rb_drop (some a) c l h1 ((k : Int) + 1) (by omega) (by omega)
        have HD2 := Lib.hid hdr2
        have HD3 := Lib.hid hdr3
        have hdig := digR_at x l k hk20 hx HJ.out
        rw [← hwd] at hdig
        have hbd := atoiV_bounds wd
        clear hwd hdr2 hdr3 hx
        by_cases hcan : Lib.itoa (atoiV wd) = wd
        · rw [canon_iff wd hcan] at hdig
          have HF := Lib.hid hdig
          obtain ⟨n, hn⟩ : ∃ n, n = atoiV wd := ⟨_, rfl⟩
          rw [← hn] at hbd hcan
          have HN := Lib.hid hn
          have hat := fun (W : World) (hG : G W) => atoi_any wd hwl hG
          rw [← hn] at hat
          rw [← hcan] at hat
          have HAT := Lib.hid hat
          rw [← hcan] at hcv
          have HC := Lib.hid hcan
          clear hdig hn hat hcan
          go_wp2_with (first
            | (go_at_call 36; refine (HAT.out _ HG.out).mono ?_; rintro e w2 ⟨⟨v, rfl⟩, b2⟩; have c2 := cell_below b2 hRlt c0; have f2 := (b2.frozen (p := ⟨R, 0, none⟩) hRlt).trans f0)
            | (go_at_call 26; refine (itoa_c n hbd.1 hbd.2 (HG.out.below HG.out.sz b2)).mono ?_; rintro e w3 ⟨rfl, b3⟩; have B3 := b2.trans (b3.mono b2.size); have c3 := cell_below B3 hRlt c0; have f3 := (B3.frozen (p := ⟨R, 0, none⟩) hRlt).trans f0))
          go_ret2
          unfold DigPost
          rw [HF.out]
          have e1 : ((k : Int) + 1).toNat = k + 1 := by omega
          have hrb := rb_below (HD2.out _ HB.out) B3
          rw [e1] at hrb
          rw [← HN.out]
          exact ⟨rfl, rd_set0 (rd_keep HRd.out B3) (by rw [List.length_drop]) hrb (by rw [List.length_drop]; omega) (fun a' ha => by obtain ⟨a0, h0, h1⟩ := HD3.out a' ha; rw [h1]; exact HA.out a0 h0), (grownBy_below B3 _).trans (grownBy_set _ R 0 _)⟩
        · rw [canon_none wd hcan] at hdig
          have HF := Lib.hid hdig
          have hne : (Lib.itoa (atoiV wd) == wd) = false := by simpa using hcan
          obtain ⟨n, hn⟩ : ∃ n, n = atoiV wd := ⟨_, rfl⟩
          rw [← hn] at hbd hne
          have HN := Lib.hid hn
          have hat := fun (W : World) (hG : G W) => atoi_any wd hwl hG
          rw [← hn] at hat
          have HAT := Lib.hid hat
          clear hdig hn hat hcan
          go_wp2_with (first
            | (go_at_call 36; refine (HAT.out _ HG.out).mono ?_; rintro e w2 ⟨⟨v, rfl⟩, b2⟩; have c2 := cell_below b2 hRlt c0; have f2 := (b2.frozen (p := ⟨R, 0, none⟩) hRlt).trans f0)
            | (go_at_call 26; refine (itoa_c n hbd.1 hbd.2 (HG.out.below HG.out.sz b2)).mono ?_; rintro e w3 ⟨rfl, b3⟩; have B3 := b2.trans (b3.mono b2.size); have c3 := cell_below B3 hRlt c0; have f3 := (B3.frozen (p := ⟨R, 0, none⟩) hRlt).trans f0))
          go_ret2
          unfold DigPost
          rw [HF.out]
          exact ⟨rfl, rd_keep HRd.out B3, grownBy_below B3 _⟩
      · have hne : ((x.toNat : Int) != m.toNat) = true := by
          have : x.toNat ≠ m.toNat := fun h => hxm (UInt8.toNat_inj.1 h)
          exact bne_iff_ne.2 (by omega)
        have HX := Lib.hid hx
        have HXM := Lib.hid hxm
        clear hx hxm
        go_wp2
        go_round
        case rel => exact ⟨k + 1, by omega, by omega, by go_num, fun j hj => by
          rcases Nat.lt_or_ge j k with h | h
          · exact HJ.out j h
          · obtain rfl : j = k := by omega
            rw [HX.out]
            intro h
            exact HXM.out (Option.some.inj h)⟩
        case measure => simp [intOf]; omega
    · have hd := digR_none m l (fun j hj hj20 => HJ.out j (by omega))
      have HF := Lib.hid hd
      clear hd
      by_cases hkl : k < l.length
      all_goals
        go_wp2
        go_ret2
        unfold DigPost
        rw [HF.out]
        exact ⟨rfl, HRd.out, World.grownBy.refl _ _⟩
end Go.Proofs.YtndklgbjpdlegaaDoor
