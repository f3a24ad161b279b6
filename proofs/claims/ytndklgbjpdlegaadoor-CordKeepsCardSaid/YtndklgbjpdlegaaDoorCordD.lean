/- Layer 1: the walk of the program's 'digits', and of the methods over it. -/
import Derived.Test.YtndklgbjpdlegaaDoorCordR
namespace Go.Proofs.YtndklgbjpdlegaaDoor
open Go Go.RowKit
set_option linter.unusedSimpArgs false
set_option linter.unusedVariables false

def DigPost (T : Nat) (S : Nat → Prop) (w : World) (R : Nat) (l : List UInt8) (bad : Bool) (m : UInt8) (e : Ending) (w' : World) : Prop :=
  e = .returned (.tuple #[.int .i64 (digR m l).1, .bool (digR m l).2.1]) ∧ Rd T S w' R (digR m l).2.2 bad ∧ w.grownBy w' (some R)

theorem rd_keep {T : Nat} {w w1 : World} {S : Nat → Prop} {R : Nat} {l : List UInt8} {bad : Bool} (h : Rd T S w R l bad) (hb : Below w.heap.size w w1) : Rd T S w1 R l bad := by
  obtain ⟨A, c, h1, h2, h3, h4⟩ := h
  exact ⟨A, c, (hb.block R (Array.getElem?_eq_some_iff.1 h1).1).trans h1, rb_below h2 hb, h3, h4⟩

theorem rd_set0 {T : Nat} {w : World} {S : Nat → Prop} {R : Nat} {l r : List UInt8} {bad : Bool} (h : Rd T S w R l bad) {A : Option Addr} {n c : Nat} (hn : n = r.length) (hr : RB w (.slice A n c) r) (hl : r.length ≤ 70368744177664) (hA : ∀ a, A = some a → S a.block) :
    Rd T S (w.setCell ⟨R, 0, none⟩ (.slice A n c)) R r bad := by
  subst hn
  obtain ⟨A0, c0, h1, h2, h3, h4⟩ := h
  refine ⟨A, c, ?_, rc_grown hr (grownBy_set w R 0 _) (fun a n' c' he => ?_), hl, hA, h4.2⟩
  · simp [World.setCell, Array.getElem?_modify, h1]
  · injection he with e1 _ _
    exact fun hk => h4.2 (hk ▸ hA a e1)

/-- What another reader has written. -/
theorem rd_other {T : Nat} {S : Nat → Prop} {w w1 : World} {R Q : Nat} {l : List UInt8} {bad : Bool} (h : Rd T S w R l bad) (hg : w.grownBy w1 (some Q)) (hne : Q ≠ R) (hS : ¬ S Q) : Rd T S w1 R l bad := by
  obtain ⟨A, c, h1, h2, h3, h4⟩ := h
  refine ⟨A, c, (hg.block R (Array.getElem?_eq_some_iff.1 h1).1 (fun e => hne (Option.some.inj e).symm)).trans h1, rc_grown h2 hg (fun a n c he e => ?_), h3, h4⟩
  injection he with e1 _ _
  exact hS (e ▸ h4.1 a e1)

set_option maxRecDepth 100000 in
set_option maxHeartbeats 2000000 in
theorem digits_c {w : World} {S : Nat → Prop} {R : Nat} {l : List UInt8} {bad : Bool} (hG : G w) (h : Rd 51 S w R l bad) (m : UInt8) :
    Calls Tryd.prog 29 #[.pointer (some ⟨R, 0, none⟩), .int .u8 m.toNat] w (DigPost 51 S w R l bad m) := by
  obtain ⟨A, c, hR, hb, hl, hA, _⟩ := id h
  obtain ⟨_, _, _, h1, h2, _, _, _⟩ := id hb
  have h1 : l.length ≤ c := by obtain ⟨_, _, he, h1, _⟩ := id hb; injection he with _ _ e3; omega
  have HRd := Lib.hid h
  have HB := Lib.hid hb
  have HG := Lib.hid hG
  have HA := Lib.hid hA
  have c0 : w.cell? ⟨R, 0, none⟩ = some (.slice A l.length c) := by simp [World.cell?, hR]
  have f0 : w.frozen? ⟨R, 0, none⟩ = false := by simp [World.frozen?, hR]
  have hRlt : R < w.heap.size := (Array.getElem?_eq_some_iff.1 hR).1
  clear hb hG h hA hR h2
  have hmin : (min (l.length : Int) 21).toNat = (l.take 21).length := by rw [List.length_take]; omega
  obtain ⟨k0, hk0⟩ : ∃ k0, k0 = (min (l.length : Int) 21).toNat := ⟨_, rfl⟩
  have hk0l : k0 = (l.take 21).length := by rw [hk0, hmin]
  have ht := rb_take HB.out rfl (l.take 21).length (by rw [List.length_take]; omega)
  have htt : l.take (l.take 21).length = l.take 21 := by rw [List.length_take]; rcases Nat.le_total 21 l.length with h | h <;> simp [h, List.take_of_length_le]
  rw [htt] at ht
  have hI : ∀ nq, Calls Tryd.prog 35 #[.slice A (min (l.length : Int) 21).toNat c, .int .u8 m.toNat] (w.drewN nq) fun e w' => e = .returned (.int .i64 (Lib.indexByte (l.take 21) m)) ∧ w' = w.drewN nq := by
    intro nq
    rw [hmin]
    exact indexByte_c (rb_below ht (below_drewN w nq)) m
  have HI := Lib.hid hI
  clear hI ht htt hk0l hk0
  have hat := indexByte_lt (l.take 21) m
  have hlt : (l.take 21).length ≤ l.length := by rw [List.length_take]; omega
  obtain ⟨at_, hat_⟩ : ∃ at_, at_ = Lib.indexByte (l.take 21) m := ⟨_, rfl⟩
  have HAT := Lib.hid hat_
  rw [← hat_] at hat
  clear hat_ hmin
  by_cases hneg : at_ < 0
  · have hfin : digR m l = (0, false, l) := by unfold digR; rw [if_pos (by rw [← HAT.out]; exact hneg)]
    have HF := Lib.hid hfin
    clear hfin
    go_enter Tryd.func29, Tryd.ntmps29
    go_wp2_with fail
    go_quiet ((go_at_call 35; refine (HI.out _).mono ?_; rintro e w'' ⟨he, hw⟩; rw [← HAT.out] at he; subst he; exact ⟨rfl, _, hw⟩))
    go_wp2
    go_ret2
    unfold DigPost
    rw [HF.out]
    exact ⟨rfl, rd_keep HRd.out (below_drewN _ _), grownBy_drewN _ _ _⟩
  · obtain ⟨k, hk⟩ : ∃ k : Nat, at_ = k := ⟨at_.toNat, by omega⟩
    have hkt : k < l.length := by omega
    obtain ⟨wd, hwd⟩ : ∃ wd, wd = l.take k := ⟨_, rfl⟩
    have hwl : wd.length ≤ 70368744177664 := by rw [hwd, List.length_take]; omega
    have hcv := fun nq => rb_string (rb_below (rb_take HB.out rfl k (by omega)) (below_drewN w nq))
    rw [← hwd] at hcv
    have HWD := Lib.hid hwd
    have HK := Lib.hid hk
    obtain ⟨A', hdr, hdr2, hdr3⟩ := rb_drop A c l h1 ((k : Int) + 1) (by omega) (by omega)
    have HD2 := Lib.hid hdr2
    have HD3 := Lib.hid hdr3
    clear hwd hdr2 hdr3
    have hAT2 : Lib.indexByte (l.take 21) m = k := by rw [← HAT.out, HK.out]
    have HAT2 := Lib.hid hAT2
    clear hAT2 hk
    by_cases hok : ∃ n, Lib.atoiAll wd = .ok n
    · obtain ⟨n, hn⟩ := hok
      have hnb := Lib.atoiAll_bounds hn
      have HN := Lib.hid hn
      clear hn
      by_cases hcan : Lib.itoa n = wd
      · subst hcan
        have hcan2 : canonB (l.take k) = some n := by
          rw [← HWD.out]
          unfold canonB
          rw [HN.out]
          simp
        have hfin : digR m l = (n, true, l.drop (k + 1)) := by
          unfold digR
          rw [HAT2.out, if_neg (by omega)]
          simp only [Int.toNat_natCast]
          rw [hcan2]
        clear hcan2
        have HF := Lib.hid hfin
        clear hfin
        go_enter Tryd.func29, Tryd.ntmps29
        go_wp2_with fail
        go_quiet ((go_at_call 35; refine (HI.out _).mono ?_; rintro e w'' ⟨he, hw⟩; rw [HAT2.out] at he; subst he; exact ⟨rfl, _, hw⟩))
        go_wp2_with (first
          | (go_at_call 36; refine (atoi_ok _ hwl n HN.out _).mono ?_; rintro e w2 ⟨rfl, b2⟩; have B2 := (below_drewN w _).trans (b2.mono (by simp)); have c2 := cell_below B2 hRlt c0; have f2 := (B2.frozen (p := ⟨R, 0, none⟩) hRlt).trans f0)
          | (go_at_call 26; refine (itoa_c n hnb.1 hnb.2 (HG.out.below HG.out.sz B2)).mono ?_; rintro e w3 ⟨rfl, b3⟩; have B3 := B2.trans (b3.mono B2.size); have c3 := cell_below B3 hRlt c0; have f3 := (B3.frozen (p := ⟨R, 0, none⟩) hRlt).trans f0))
        go_ret2
        unfold DigPost
        rw [HF.out]
        have e1 : ((k : Int) + 1).toNat = k + 1 := by omega
        have hrb := rb_below (HD2.out _ HB.out) B3
        rw [e1] at hrb
        exact ⟨rfl, rd_set0 (rd_keep HRd.out B3) (by rw [List.length_drop]) hrb (by rw [List.length_drop]; omega) (fun a ha => by obtain ⟨a0, h0, h1⟩ := HD3.out a ha; rw [h1]; exact HA.out a0 h0), (grownBy_below B3 _).trans (grownBy_set _ R 0 _)⟩
      · have hcan2 : canonB (l.take k) = none := by
          rw [← HWD.out]
          unfold canonB
          rw [HN.out]
          simp only [if_neg hcan]
        have hfin : digR m l = (0, false, l) := by
          unfold digR
          rw [HAT2.out, if_neg (by omega)]
          simp only [Int.toNat_natCast]
          rw [hcan2]
        have HF := Lib.hid hfin
        have hne : (Lib.itoa n == wd) = false := by simpa using hcan
        clear hfin hcan2 hcan
        go_enter Tryd.func29, Tryd.ntmps29
        go_wp2_with fail
        go_quiet ((go_at_call 35; refine (HI.out _).mono ?_; rintro e w'' ⟨he, hw⟩; rw [HAT2.out] at he; subst he; exact ⟨rfl, _, hw⟩))
        go_wp2_with (first
          | (go_at_call 36; refine (atoi_ok _ hwl n HN.out _).mono ?_; rintro e w2 ⟨rfl, b2⟩; have B2 := (below_drewN w _).trans (b2.mono (by simp)); have c2 := cell_below B2 hRlt c0; have f2 := (B2.frozen (p := ⟨R, 0, none⟩) hRlt).trans f0)
          | (go_at_call 26; refine (itoa_c n hnb.1 hnb.2 (HG.out.below HG.out.sz B2)).mono ?_; rintro e w3 ⟨rfl, b3⟩; have B3 := B2.trans (b3.mono B2.size); have c3 := cell_below B3 hRlt c0; have f3 := (B3.frozen (p := ⟨R, 0, none⟩) hRlt).trans f0))
        go_ret2
        unfold DigPost
        rw [HF.out]
        exact ⟨rfl, rd_keep HRd.out B3, grownBy_below B3 _⟩
    · have hcan2 : canonB (l.take k) = none := by
        rw [← HWD.out]
        unfold canonB
        split
        · rename_i n hn; exact absurd ⟨n, hn⟩ hok
        · rfl
      have hfin : digR m l = (0, false, l) := by
        unfold digR
        rw [HAT2.out, if_neg (by omega)]
        simp only [Int.toNat_natCast]
        rw [hcan2]
      have HF := Lib.hid hfin
      have HOK := Lib.hid hok
      clear hfin hcan2 hok
      go_enter Tryd.func29, Tryd.ntmps29
      go_wp2_with fail
      go_quiet ((go_at_call 35; refine (HI.out _).mono ?_; rintro e w'' ⟨he, hw⟩; rw [HAT2.out] at he; subst he; exact ⟨rfl, _, hw⟩))
      go_wp2_with (first
        | (go_at_call 36; refine (atoi_bad _ hwl (fun n hn => HOK.out ⟨n, hn⟩) (HG.out.below HG.out.sz (below_drewN w _))).mono ?_; rintro e w2 ⟨⟨N, rfl⟩, b2⟩; have B2 := (below_drewN w _).trans (b2.mono (by simp))))
      go_ret2
      unfold DigPost
      rw [HF.out]
      exact ⟨rfl, rd_keep HRd.out B2, grownBy_below B2 _⟩
end Go.Proofs.YtndklgbjpdlegaaDoor
