/- CordReads: in every order of reads the two readers answer alike. -/
import Derived.Test.YtndklgbjpdlegaaDoorCordK
namespace Go.Proofs.YtndklgbjpdlegaaDoor
open Go Go.RowKit
set_option linter.unusedSimpArgs false
set_option linter.unusedVariables false

theorem ri_at {w : World} {v : Value} {ns : List Int} (h : RI w v ns) : ∃ A c, v = .slice A ns.length c ∧ ∀ j y, ns[j]? = some y → ∃ a, A = some a ∧ w.cell? (a.add j) = some (.int .i64 y) := by
  obtain ⟨A, c, rfl, _, _, _, _, h5⟩ := h
  exact ⟨A, c, rfl, fun j y hy => h5 j _ (by simp [hy])⟩

set_option maxRecDepth 100000 in
theorem nil_num {w : World} : Calls Tryd.prog 17 #[.pointer none] w fun e w' => e = .returned (.int .i64 0) ∧ w = w' := by
  go_enter Tryd.func17, Tryd.ntmps17
  go_wp2
  go_ret
  exact ⟨rfl, rfl⟩

set_option maxRecDepth 100000 in
theorem nil_str {w : World} : Calls Tryd.prog 19 #[.pointer none] w fun e w' => e = .returned (.string ⟨#[]⟩) ∧ w = w' := by
  go_enter Tryd.func19, Tryd.ntmps19
  go_wp2
  go_ret
  exact ⟨rfl, rfl⟩

set_option maxRecDepth 100000 in
theorem nil_bad {w : World} : Calls Tryd.prog 20 #[.pointer none] w fun e w' => e = .returned (.bool true) ∧ w = w' := by
  go_enter Tryd.func20, Tryd.ntmps20
  go_wp2
  go_ret
  exact ⟨rfl, rfl⟩

set_option maxRecDepth 100000 in
theorem nil_left {w : World} : Calls Tryd.prog 21 #[.pointer none] w fun e w' => e = .returned (.int .i64 0) ∧ w = w' := by
  go_enter Tryd.func21, Tryd.ntmps21
  go_wp2
  go_ret
  exact ⟨rfl, rfl⟩

set_option maxRecDepth 100000 in
theorem nil_count {w : World} : Calls Tryd.prog 23 #[.pointer none] w fun e w' => e = .returned (.int .i64 0) ∧ w = w' := by
  go_enter Tryd.func23, Tryd.ntmps23
  go_wp2_with (go_at_call 17; refine nil_num.mono ?_; rintro e w1 ⟨rfl, rfl⟩)
  go_ret
  exact ⟨rfl, rfl⟩

set_option maxRecDepth 100000 in
theorem nil_end {w : World} : Calls Tryd.prog 22 #[.pointer none] w fun e w' => e = .returned (.bool false) ∧ w = w' := by
  go_enter Tryd.func22, Tryd.ntmps22
  go_wp2_with (go_at_call 20; refine nil_bad.mono ?_; rintro e w1 ⟨rfl, rfl⟩)
  go_ret
  exact ⟨rfl, rfl⟩

set_option maxRecDepth 100000 in
set_option maxHeartbeats 8000000 in
theorem cordReads_c {w : World} {b li : Value} {l : List UInt8} {ns : List Int} (hG : G w) (hb : RB w b l) (hn : RI w li ns) (hns : I64 ns) (hl : l.length ≤ 140737488351232) (hnl : ns.length ≤ 140737488351232) :
    Calls Tryd.prog 9 #[b, li] w fun e w' => e = .returned (.bool true) ∧ Below w.heap.size w w' := by
  have HB := Lib.hid hb
  have HN := Lib.hid hn
  have HG := Lib.hid hG
  obtain ⟨A, c, rfl, hnc, hc, _, _, _⟩ := id hb
  obtain ⟨A2, c2, rfl, hcell⟩ := ri_at hn
  have HC := Lib.hid hcell
  clear hb hn hns hG hcell
  by_cases hg : (l.length : Int) > 8192 ∨ (ns.length : Int) > 300
  · by_cases h1 : (l.length : Int) > 8192
    all_goals
      go_enter Tryd.func9, Tryd.ntmps9
      go_wp2_with (go_at_call 10; refine (wakes_c HG.out).mono ?_; rintro e w1 ⟨rfl, b1⟩)
      go_ret
      exact ⟨rfl, b1⟩
  · have hg1 : (l.length : Int) ≤ 8192 := by omega
    have hg2 : (ns.length : Int) ≤ 300 := by omega
    clear hg
    go_enter Tryd.func9, Tryd.ntmps9
    go_wp2_with (first
      | (go_at_call 10; refine (wakes_c HG.out).mono ?_; rintro e w1 ⟨rfl, b1⟩)
      | (go_at_call 16; refine (rd_new (rb_below HB.out b1) (by omega)).mono ?_; rintro e w2 ⟨R, rfl, hRs, hr2, b2⟩; have B2 := b1.trans (b2.mono b1.size); have HR2 := Lib.hid hr2; clear hr2)
      | (at_builtin; refine app_b (w0 := w2) (base := w2.heap.size) (l := []) (m := l) rfl (.tmp 22) (.tmp 23) rfl rfl rfl (World.ownsRow_made w2 #[] 0 (Nat.le_refl _) (Nat.zero_le _) (by simp)) (rc_alloc (rb_below HB.out B2) _) ((Below.refl _ _).alloc (Nat.le_refl _) _) (by simp) (by simp; omega) ?_; intro v3 w3 o3 b3 _ _; simp only [List.nil_append] at o3; obtain ⟨A3, c3, rfl, hA03⟩ := id (ob_rb o3); clear hA03; have O3 := Lib.hid o3; clear o3))
    have hRlt : R < w2.heap.size := by obtain ⟨A, c, h, _⟩ := HR2.out; exact (Array.getElem?_eq_some_iff.1 h).1
    have hw1 := b1.size
    have hw3 := b3.size
    have B3 := (B2.trans (b3.mono B2.size)).alloc (B2.trans (b3.mono B2.size)).size (.cells #[.slice A3 l.length c3, .bool false] 38)
    have HRa := Lib.hid (rd_keep HR2.out (b3.alloc b3.size (.cells #[.slice A3 l.length c3, .bool false] 38)))
    have HQa := Lib.hid (rd_made (T := 38) O3.out (by omega))
    go_loopw [29] (fun i wr => ∃ k : Nat, k ≤ ns.length ∧ i = .int .i64 k ∧ Below w.heap.size w wr ∧ ∃ l4 b4, Hid (Rd 51 (fun k => w1.heap.size ≤ k ∧ k < R) wr R l4 b4) ∧ Hid (Rd 38 (fun k => w2.heap.size ≤ k ∧ k < w3.heap.size) wr w3.heap.size l4 b4)) (fun i _ => ns.length - (intOf i).toNat)
    case atStart => exact ⟨0, Nat.zero_le _, rfl, B3, l, false, HRa, HQa⟩
    case round =>
      obtain ⟨k, hk, rfl, b4', l4, b4, HR4, HQ4⟩ := hrel
      clear HRa HQa O3
      by_cases hlt : k < ns.length
      · obtain ⟨y, hy⟩ : ∃ y, ns[k]? = some y := ⟨_, List.getElem?_eq_getElem hlt⟩
        obtain ⟨ad, rfl, hc1⟩ := HC.out k y hy
        have hcell := cell_below b4' (World.block_lt_of_cell? w _ hc1) hc1
        clear hy hc1
        have hRQ : R ≠ w3.heap.size := by omega
        by_cases hy0 : y = 0
        · subst hy0
          obtain ⟨n5, l5, b5, hd⟩ : ∃ n r b, rNum l4 b4 = (n, r, b) := ⟨_, _, _, rfl⟩
          have HDD := Lib.hid hd
          clear hd
          go_wp2_with (first
            | (go_at_call 17; refine (rd_num (HG.out.below HG.out.sz b4') HR4.out).mono ?_; rintro e w4 ⟨he, r5, g5⟩; rw [HDD.out] at he r5; change e = .returned (.int .i64 n5) at he; change Rd _ _ _ R l5 b5 at r5; subst he; have b5' := b4'.grown g5 b4'.size (by intro k hk; injection hk with hk; omega); have HQ5 := Lib.hid (rd_other HQ4.out g5 hRQ (by omega)); have HR5 := Lib.hid r5; clear r5)
            | (go_at_call 18; refine (rr_num (HG.out.below HG.out.sz b5') HQ5.out).mono ?_; rintro e w5 ⟨he, q6, g6⟩; rw [HDD.out] at he q6; change e = .returned (.int .i64 n5) at he; change Rd _ _ _ w3.heap.size l5 b5 at q6; subst he; have b6' := b5'.grown g6 b5'.size (by intro k hk; injection hk with hk; omega); have HR6 := Lib.hid (rd_other HR5.out g6 hRQ.symm (by omega)); have HQ6 := Lib.hid q6; clear q6)
            | fail)
          have hBd : ∀ nq, Calls Tryd.prog 20 #[.pointer (some ⟨R, 0, none⟩)] (w5.drewN nq) fun e w' => e = .returned (.bool b5) ∧ w' = w5.drewN nq := fun nq => (rd_bad (rd_keep HR6.out (below_drewN _ _))).mono fun e w' ⟨h1, h2⟩ => ⟨h1, h2.symm⟩
          have hLd : ∀ nq, Calls Tryd.prog 21 #[.pointer (some ⟨R, 0, none⟩)] (w5.drewN nq) fun e w' => e = .returned (.int .i64 l5.length) ∧ w' = w5.drewN nq := fun nq => (rd_left (rd_keep HR6.out (below_drewN _ _))).mono fun e w' ⟨h1, h2⟩ => ⟨h1, h2.symm⟩
          have hEd : ∀ nq, Calls Tryd.prog 22 #[.pointer (some ⟨R, 0, none⟩)] (w5.drewN nq) fun e w' => e = .returned (.bool (!b5 && decide (l5 = []))) ∧ w' = w5.drewN nq := fun nq => (rd_end (rd_keep HR6.out (below_drewN _ _))).mono fun e w' ⟨h1, h2⟩ => ⟨h1, h2.symm⟩
          obtain ⟨A5, c5, d0, d1, f0, f1, hb5, h15, h25, h35, hQ5⟩ := rd_facts HQ6.out
          have hle : ((l5.length : Int) == 0) = decide (l5 = []) := by cases l5 <;> simp <;> omega
          obtain ⟨le, hle2⟩ : ∃ le, decide (l5 = []) = le := ⟨_, rfl⟩
          rw [hle2] at hle
          simp only [hle2] at hEd
          have BD := Lib.hid hBd
          have LD := Lib.hid hLd
          have ED := Lib.hid hEd
          clear hb5 h35 hBd hLd hEd hle2
          cases b5
          all_goals
            go_quiet (first
              | (go_at_call 20; refine (BD.out _).mono ?_; rintro e w'' ⟨rfl, hw⟩; exact ⟨rfl, _, hw⟩)
              | (go_at_call 21; refine (LD.out _).mono ?_; rintro e w'' ⟨rfl, hw⟩; exact ⟨rfl, _, hw⟩)
              | (go_at_call 22; refine (ED.out _).mono ?_; rintro e w'' ⟨rfl, hw⟩; exact ⟨rfl, _, hw⟩))
            go_wp2
            go_roundw
            case rel => exact ⟨k + 1, by omega, by go_num, b6'.trans ((below_drewN _ _).mono b6'.size), l5, _, Lib.hid (rd_keep HR6.out (below_drewN _ _)), Lib.hid (rd_keep HQ6.out (below_drewN _ _))⟩
            case measure => simp [intOf]; omega
        by_cases hy1 : y = 1
        · subst hy1
          obtain ⟨n5, l5, b5, hd⟩ : ∃ n r b, rCount l4 b4 = (n, r, b) := ⟨_, _, _, rfl⟩
          have HDD := Lib.hid hd
          clear hd
          go_wp2_with (first
            | (go_at_call 23; refine (rd_count (HG.out.below HG.out.sz b4') HR4.out).mono ?_; rintro e w4 ⟨he, r5, g5⟩; rw [HDD.out] at he r5; change e = .returned (.int .i64 n5) at he; change Rd _ _ _ R l5 b5 at r5; subst he; have b5' := b4'.grown g5 b4'.size (by intro k hk; injection hk with hk; omega); have HQ5 := Lib.hid (rd_other HQ4.out g5 hRQ (by omega)); have HR5 := Lib.hid r5; clear r5)
            | (go_at_call 24; refine (rr_count (HG.out.below HG.out.sz b5') HQ5.out).mono ?_; rintro e w5 ⟨he, q6, g6⟩; rw [HDD.out] at he q6; change e = .returned (.int .i64 n5) at he; change Rd _ _ _ w3.heap.size l5 b5 at q6; subst he; have b6' := b5'.grown g6 b5'.size (by intro k hk; injection hk with hk; omega); have HR6 := Lib.hid (rd_other HR5.out g6 hRQ.symm (by omega)); have HQ6 := Lib.hid q6; clear q6)
            | fail)
          have hBd : ∀ nq, Calls Tryd.prog 20 #[.pointer (some ⟨R, 0, none⟩)] (w5.drewN nq) fun e w' => e = .returned (.bool b5) ∧ w' = w5.drewN nq := fun nq => (rd_bad (rd_keep HR6.out (below_drewN _ _))).mono fun e w' ⟨h1, h2⟩ => ⟨h1, h2.symm⟩
          have hLd : ∀ nq, Calls Tryd.prog 21 #[.pointer (some ⟨R, 0, none⟩)] (w5.drewN nq) fun e w' => e = .returned (.int .i64 l5.length) ∧ w' = w5.drewN nq := fun nq => (rd_left (rd_keep HR6.out (below_drewN _ _))).mono fun e w' ⟨h1, h2⟩ => ⟨h1, h2.symm⟩
          have hEd : ∀ nq, Calls Tryd.prog 22 #[.pointer (some ⟨R, 0, none⟩)] (w5.drewN nq) fun e w' => e = .returned (.bool (!b5 && decide (l5 = []))) ∧ w' = w5.drewN nq := fun nq => (rd_end (rd_keep HR6.out (below_drewN _ _))).mono fun e w' ⟨h1, h2⟩ => ⟨h1, h2.symm⟩
          obtain ⟨A5, c5, d0, d1, f0, f1, hb5, h15, h25, h35, hQ5⟩ := rd_facts HQ6.out
          have hle : ((l5.length : Int) == 0) = decide (l5 = []) := by cases l5 <;> simp <;> omega
          obtain ⟨le, hle2⟩ : ∃ le, decide (l5 = []) = le := ⟨_, rfl⟩
          rw [hle2] at hle
          simp only [hle2] at hEd
          have BD := Lib.hid hBd
          have LD := Lib.hid hLd
          have ED := Lib.hid hEd
          clear hb5 h35 hBd hLd hEd hle2
          cases b5
          all_goals
            go_quiet (first
              | (go_at_call 20; refine (BD.out _).mono ?_; rintro e w'' ⟨rfl, hw⟩; exact ⟨rfl, _, hw⟩)
              | (go_at_call 21; refine (LD.out _).mono ?_; rintro e w'' ⟨rfl, hw⟩; exact ⟨rfl, _, hw⟩)
              | (go_at_call 22; refine (ED.out _).mono ?_; rintro e w'' ⟨rfl, hw⟩; exact ⟨rfl, _, hw⟩))
            go_wp2
            go_roundw
            case rel => exact ⟨k + 1, by omega, by go_num, b6'.trans ((below_drewN _ _).mono b6'.size), l5, _, Lib.hid (rd_keep HR6.out (below_drewN _ _)), Lib.hid (rd_keep HQ6.out (below_drewN _ _))⟩
            case measure => simp [intOf]; omega
        · skip
          obtain ⟨n5, l5, b5, hd⟩ : ∃ n r b, rStr l4 b4 = (n, r, b) := ⟨_, _, _, rfl⟩
          have HDD := Lib.hid hd
          clear hd
          go_wp2_with (first
            | (go_at_call 19; refine (rd_str (HG.out.below HG.out.sz b4') HR4.out).mono ?_; rintro e w4 ⟨he, r5, g5⟩; rw [HDD.out] at he r5; change e = .returned (.string ⟨n5.toArray⟩) at he; change Rd _ _ _ R l5 b5 at r5; subst he; have b5' := b4'.grown g5 b4'.size (by intro k hk; injection hk with hk; omega); have HQ5 := Lib.hid (rd_other HQ4.out g5 hRQ (by omega)); have HR5 := Lib.hid r5; clear r5)
            | (go_at_call 25; refine (rr_str (HG.out.below HG.out.sz b5') HQ5.out).mono ?_; rintro e w5 ⟨he, q6, g6⟩; rw [HDD.out] at he q6; change e = .returned (.string ⟨n5.toArray⟩) at he; change Rd _ _ _ w3.heap.size l5 b5 at q6; subst he; have b6' := b5'.grown g6 b5'.size (by intro k hk; injection hk with hk; omega); have HR6 := Lib.hid (rd_other HR5.out g6 hRQ.symm (by omega)); have HQ6 := Lib.hid q6; clear q6)
            | fail)
          have hBd : ∀ nq, Calls Tryd.prog 20 #[.pointer (some ⟨R, 0, none⟩)] (w5.drewN nq) fun e w' => e = .returned (.bool b5) ∧ w' = w5.drewN nq := fun nq => (rd_bad (rd_keep HR6.out (below_drewN _ _))).mono fun e w' ⟨h1, h2⟩ => ⟨h1, h2.symm⟩
          have hLd : ∀ nq, Calls Tryd.prog 21 #[.pointer (some ⟨R, 0, none⟩)] (w5.drewN nq) fun e w' => e = .returned (.int .i64 l5.length) ∧ w' = w5.drewN nq := fun nq => (rd_left (rd_keep HR6.out (below_drewN _ _))).mono fun e w' ⟨h1, h2⟩ => ⟨h1, h2.symm⟩
          have hEd : ∀ nq, Calls Tryd.prog 22 #[.pointer (some ⟨R, 0, none⟩)] (w5.drewN nq) fun e w' => e = .returned (.bool (!b5 && decide (l5 = []))) ∧ w' = w5.drewN nq := fun nq => (rd_end (rd_keep HR6.out (below_drewN _ _))).mono fun e w' ⟨h1, h2⟩ => ⟨h1, h2.symm⟩
          obtain ⟨A5, c5, d0, d1, f0, f1, hb5, h15, h25, h35, hQ5⟩ := rd_facts HQ6.out
          have hle : ((l5.length : Int) == 0) = decide (l5 = []) := by cases l5 <;> simp <;> omega
          obtain ⟨le, hle2⟩ : ∃ le, decide (l5 = []) = le := ⟨_, rfl⟩
          rw [hle2] at hle
          simp only [hle2] at hEd
          have BD := Lib.hid hBd
          have LD := Lib.hid hLd
          have ED := Lib.hid hEd
          clear hb5 h35 hBd hLd hEd hle2
          cases b5
          all_goals
            go_quiet (first
              | (go_at_call 20; refine (BD.out _).mono ?_; rintro e w'' ⟨rfl, hw⟩; exact ⟨rfl, _, hw⟩)
              | (go_at_call 21; refine (LD.out _).mono ?_; rintro e w'' ⟨rfl, hw⟩; exact ⟨rfl, _, hw⟩)
              | (go_at_call 22; refine (ED.out _).mono ?_; rintro e w'' ⟨rfl, hw⟩; exact ⟨rfl, _, hw⟩))
            go_wp2
            go_roundw
            case rel => exact ⟨k + 1, by omega, by go_num, b6'.trans ((below_drewN _ _).mono b6'.size), l5, _, Lib.hid (rd_keep HR6.out (below_drewN _ _)), Lib.hid (rd_keep HQ6.out (below_drewN _ _))⟩
            case measure => simp [intOf]; omega
      · go_wp2_with (first
          | (go_at_call 17; refine nil_num.mono ?_; rintro e w1 ⟨rfl, rfl⟩)
          | (go_at_call 23; refine nil_count.mono ?_; rintro e w1 ⟨rfl, rfl⟩)
          | (go_at_call 19; refine nil_str.mono ?_; rintro e w1 ⟨rfl, rfl⟩)
          | (go_at_call 20; refine nil_bad.mono ?_; rintro e w1 ⟨rfl, rfl⟩)
          | (go_at_call 21; refine nil_left.mono ?_; rintro e w1 ⟨rfl, rfl⟩)
          | (go_at_call 22; refine nil_end.mono ?_; rintro e w1 ⟨rfl, rfl⟩))
        go_ret
        exact ⟨rfl, b4'⟩
end Go.Proofs.YtndklgbjpdlegaaDoor
