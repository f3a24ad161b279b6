/- CordAnew: whatever can be read, put anew, is these bytes. -/
import Derived.Test.YtndklgbjpdlegaaDoorCordK
import Derived.Test.YtndklgbjpdlegaaDoorCordQ
import Derived.Test.YtndklgbjpdlegaaDoorOpen2
namespace Go.Proofs.YtndklgbjpdlegaaDoor
open Go Go.RowKit
set_option linter.unusedSimpArgs false
set_option linter.unusedVariables false

theorem bools_at {w : World} {v : Value} {bs : List Bool} (h : RBo w v bs) : ∃ A c, v = .slice A bs.length c ∧ ∀ k x, bs[k]? = some x → ∃ a, A = some a ∧ w.cell? (a.add k) = some (.bool x) := by
  obtain ⟨A, c, h1, h2, h3⟩ := row_at (f := boolCells) (s := 1) (by omega) (fun _ => rfl) h
  exact ⟨A, c, h1, fun k x hx => by
    obtain ⟨a, ha, hc⟩ := h3 k x hx
    exact ⟨a, ha, by simpa using hc 0 _ rfl⟩⟩

theorem rStr_true {l s r : List UInt8} (h : rStr l false = (s, r, true)) : r = [] := by
  unfold rStr at h
  split at h <;> simp_all
theorem rNum_true {l r : List UInt8} {n : Int} (h : rNum l false = (n, r, true)) : r = [] := by
  unfold rNum at h
  split at h <;> simp_all

set_option maxRecDepth 100000 in
set_option maxHeartbeats 4000000 in
theorem cordAnew_c {w : World} {b li : Value} {l : List UInt8} {bs : List Bool} (hG : G w) (hb : RB w b l) (hn : RBo w li bs) (hl : l.length ≤ 140737488351232) (hnl : bs.length ≤ 140737488351232) :
    Calls Tryd.prog 6 #[b, li] w fun e w' => e = .returned (.bool true) ∧ Below w.heap.size w w' := by
  have HB := Lib.hid hb
  have HN := Lib.hid hn
  have HG := Lib.hid hG
  obtain ⟨A, c, rfl, hnc, hc, _, _, _⟩ := id hb
  obtain ⟨A2, c2, rfl, hcell⟩ := bools_at hn
  have HC := Lib.hid hcell
  clear hb hn hG hcell
  by_cases hg : (l.length : Int) > 8192 ∨ (bs.length : Int) > 300
  · by_cases h1 : (l.length : Int) > 8192
    all_goals
      go_enter Tryd.func6, Tryd.ntmps6
      go_wp2_with (go_at_call 10; refine (wakes_c HG.out).mono ?_; rintro e w1 ⟨rfl, b1⟩)
      go_ret
      exact ⟨rfl, b1⟩
  · have hg1 : (l.length : Int) ≤ 8192 := by omega
    have hg2 : (bs.length : Int) ≤ 300 := by omega
    clear hg
    go_enter Tryd.func6, Tryd.ntmps6
    go_wp2_with (first
      | (go_at_call 10; refine (wakes_c HG.out).mono ?_; rintro e w1 ⟨rfl, b1⟩)
      | (go_at_call 16; refine (rd_new (rb_below HB.out b1) (by omega)).mono ?_; rintro e w2 ⟨R, rfl, hRs, hr2, b2⟩; have B2 := b1.trans (b2.mono b1.size); have HR2 := Lib.hid hr2; clear hr2))
    have hRlt : R < w2.heap.size := by obtain ⟨A, c, h, _⟩ := HR2.out; exact (Array.getElem?_eq_some_iff.1 h).1
    have hw1 := b1.size
    go_loopw [6, 25] (fun x i wr => ∃ k : Nat, k ≤ bs.length ∧ i = .int .i64 k ∧ Below w.heap.size w wr ∧ w2.heap.size ≤ wr.heap.size ∧ ∃ out l4, l = out ++ l4 ∧ Hid (OB wr w2.heap.size x out) ∧ Hid (Rd 51 (fun k => w1.heap.size ≤ k ∧ k < R) wr R l4 false)) (fun _ i _ => bs.length - (intOf i).toNat)
    case atStart => exact ⟨0, Nat.zero_le _, rfl, B2, Nat.le_refl _, [], l, rfl, Lib.hid (ob_nil _ _), HR2⟩
    case round =>
      obtain ⟨k, hk, rfl, b4, hs4, out, l4, hl4, O4, HR4⟩ := hrel
      clear HR2
      have hll0 : out.length + l4.length = l.length := by rw [hl4, List.length_append]
      have hll : out.length + l4.length ≤ l.length := Nat.le_of_eq hll0
      have hll' : l.length ≤ out.length + l4.length := Nat.le_of_eq hll0.symm
      have HL4 := Lib.hid hl4
      clear hl4 hll0
      by_cases hlt : k < bs.length
      · obtain ⟨t, ht⟩ : ∃ y, bs[k]? = some y := ⟨_, List.getElem?_eq_getElem hlt⟩
        obtain ⟨ad, rfl, hc1⟩ := HC.out k t ht
        have hcell := cell_below b4 (World.block_lt_of_cell? w _ hc1) hc1
        clear ht hc1
        cases t with
        | true =>
          obtain ⟨s, r, bd, hd⟩ : ∃ s r b, rStr l4 false = (s, r, b) := ⟨_, _, _, rfl⟩
          have HDD := Lib.hid hd
          cases bd with
          | true =>
            have hr0 := rStr_true hd
            subst hr0
            clear hd
            go_wp2_with (first
              | (go_at_call 19; refine (rd_str (HG.out.below HG.out.sz b4) HR4.out).mono ?_; rintro e w5 ⟨he, r5, g5⟩; rw [HDD.out] at he r5; change e = .returned (.string ⟨s.toArray⟩) at he; change Rd _ _ _ R [] true at r5; subst he; have b5 := b4.grown g5 b4.size (by intro k hk; injection hk with hk; omega); have HR5 := Lib.hid r5; clear r5)
              | (go_at_call 20; refine (rd_bad HR5.out).mono ?_; rintro e w6 ⟨rfl, rfl⟩)
              | (go_at_call 21; refine (rd_left HR5.out).mono ?_; rintro e w6 ⟨rfl, rfl⟩))
            go_ret
            exact ⟨rfl, b5⟩
          | false =>
            have hr0 := rStr_inv hd
            have hlr : (strB s).length + r.length ≤ l4.length := by rw [hr0, List.length_append]; exact Nat.le_refl _
            have hls : s.length ≤ (strB s).length := by simp [strB]; omega
            have H0 := Lib.hid hr0
            clear hd hr0
            go_wp2_with (first
              | (go_at_call 19; refine (rd_str (HG.out.below HG.out.sz b4) HR4.out).mono ?_; rintro e w5 ⟨he, r5, g5⟩; rw [HDD.out] at he r5; change e = .returned (.string ⟨s.toArray⟩) at he; change Rd _ _ _ R r false at r5; subst he; have b5 := b4.grown g5 b4.size (by intro k hk; injection hk with hk; omega); have O5 := Lib.hid (own_other O4.out g5 (fun k hk he => by have := own_base O4.out k hk; injection he with he; omega)); have HR5 := Lib.hid r5; have hs5 := g5.size; clear r5)
              | (go_at_call 20; refine (rd_bad HR5.out).mono ?_; rintro e w6 ⟨rfl, rfl⟩)
              | (go_at_call 13; refine (cordStr_c (HG.out.below HG.out.sz b5) (ob_rb O5.out) ⟨s.toArray⟩ (by rw [str_size]; omega)).mono ?_; rintro e w7 ⟨v7, rfl, o7, b7⟩; have O7 := Lib.hid (own_lower (base' := w2.heap.size) o7 (by omega)); have HR7 := Lib.hid (rd_keep HR5.out b7); clear o7))
            go_roundw
            case rel => exact ⟨k + 1, by omega, by go_num, b5.trans (b7.mono b5.size), by have := b7.size; omega, out ++ strB s, r, by rw [HL4.out, H0.out]; simp, O7, HR7⟩
            case measure => simp [intOf]; omega
        | false =>
          obtain ⟨n, r, bd, hd⟩ : ∃ s r b, rNum l4 false = (s, r, b) := ⟨_, _, _, rfl⟩
          have HDD := Lib.hid hd
          cases bd with
          | true =>
            have hr0 := rNum_true hd
            subst hr0
            clear hd
            go_wp2_with (first
              | (go_at_call 17; refine (rd_num (HG.out.below HG.out.sz b4) HR4.out).mono ?_; rintro e w5 ⟨he, r5, g5⟩; rw [HDD.out] at he r5; change e = .returned (.int .i64 n) at he; change Rd _ _ _ R [] true at r5; subst he; have b5 := b4.grown g5 b4.size (by intro k hk; injection hk with hk; omega); have HR5 := Lib.hid r5; clear r5)
              | (go_at_call 20; refine (rd_bad HR5.out).mono ?_; rintro e w6 ⟨rfl, rfl⟩)
              | (go_at_call 21; refine (rd_left HR5.out).mono ?_; rintro e w6 ⟨rfl, rfl⟩))
            go_ret
            exact ⟨rfl, b5⟩
          | false =>
            obtain ⟨hr0, hn0, hn1⟩ := rNum_inv hd
            have hlr : (numB n).length + r.length ≤ l4.length := by rw [hr0, List.length_append]; exact Nat.le_refl _
            have H0 := Lib.hid hr0
            clear hd hr0
            go_wp2_with (first
              | (go_at_call 17; refine (rd_num (HG.out.below HG.out.sz b4) HR4.out).mono ?_; rintro e w5 ⟨he, r5, g5⟩; rw [HDD.out] at he r5; change e = .returned (.int .i64 n) at he; change Rd _ _ _ R r false at r5; subst he; have b5 := b4.grown g5 b4.size (by intro k hk; injection hk with hk; omega); have O5 := Lib.hid (own_other O4.out g5 (fun k hk he => by have := own_base O4.out k hk; injection he with he; omega)); have HR5 := Lib.hid r5; have hs5 := g5.size; clear r5)
              | (go_at_call 20; refine (rd_bad HR5.out).mono ?_; rintro e w6 ⟨rfl, rfl⟩; have b6 := b5.alloc b5.size (.cells #[.int .i64 n] 3))
              | (go_at_call 12; refine (cordNum_c (ns := [n]) (HG.out.below HG.out.sz b6) (rc_alloc (ob_rb O5.out) _) (ri_lit _ [n] _ 1 rfl rfl (by omega)) (by intro m hm; simp at hm; subst hm; exact ⟨hn0, hn1⟩) (by simp; omega)).mono ?_; rintro e w7 ⟨v7, rfl, o7, b7⟩; have hs7 := b7.size; have O7 := Lib.hid (own_lower (base' := w2.heap.size) o7 (by simp; omega)); have HR7 := Lib.hid (rd_keep HR5.out (((Below.refl _ _).alloc (Nat.le_refl _) _).trans (b7.mono (by simp)))); clear o7))
            go_roundw
            case rel => exact ⟨k + 1, by omega, by go_num, b6.trans (b7.mono b6.size), by simp at hs7; omega, out ++ numB n, r, by rw [HL4.out, H0.out]; simp, Lib.hid (by have := O7.out; rw [show numsB [n] = numB n by simp [numsB]] at this; exact this), HR7⟩
            case measure => simp [intOf]; omega
      · obtain ⟨Ao, no, rfl, hAo⟩ := id (ob_rb O4.out)
        clear hAo
        have hLd : ∀ nq, Calls Tryd.prog 21 #[.pointer (some ⟨R, 0, none⟩)] (wr.drewN nq) fun e w' => e = .returned (.int .i64 l4.length) ∧ w' = wr.drewN nq := fun nq => (rd_left (rd_keep HR4.out (below_drewN _ _))).mono fun e w' ⟨h1, h2⟩ => ⟨h1, h2.symm⟩
        have LD := Lib.hid hLd
        have hcv := fun nq => rb_string (rb_below (ob_rb O4.out) (below_drewN wr nq))
        have htk : l.take out.length = out := by rw [HL4.out]; simp
        have htb := rb_take (rb_below HB.out b4) rfl out.length (by omega)
        rw [htk] at htb
        have hcv2 := fun nq => rb_string (rb_below htb (below_drewN wr nq))
        have hq : ((out.length : Int) + (l4.length : Int) == (l.length : Int)) = true := beq_iff_eq.2 (by omega)
        have HR := Lib.hid HR4.out
        clear hLd htk htb
        go_wp2_with (go_at_call 20; refine (rd_bad HR4.out).mono ?_; rintro e w6 ⟨rfl, rfl⟩)
        go_quiet ((go_at_call 21; refine (LD.out _).mono ?_; rintro e w'' ⟨rfl, hw⟩; exact ⟨rfl, _, hw⟩))
        go_wp2
        go_ret
        exact ⟨by simp, b4.trans ((below_drewN _ _).mono b4.size)⟩
end Go.Proofs.YtndklgbjpdlegaaDoor
