/- Layer 10: Copy: the walk. -/
import Derived.Test.YtelhpdnclmpgoaaDoorQdB
namespace Go.Proofs.YtelhpdnclmpgoaaDoor
open Go Go.RowKit Go.Sort
open Go.ChangeShapes Go.WideShapes Go.Deep
set_option linter.unusedSimpArgs false
set_option linter.unusedVariables false

theorem drewO {w : World} {B e s n : Nat} {v : Value} {xs : List Value} (h : w.ownsRow B e s v n xs) : w.drew.ownsRow B e s v n xs := h
theorem queue_end1 {fn : Func} {p : Tmp} (h : fn.results = #[.cell p 25]) {R : Ending → World → Prop} {a : Act} {w : World} {g : Nat} {t : TypeId} {c0 c1 c2 c3 c4 c5 c6 : Value} {fr : Nat × Nat} (d0 d1 d2 d3 d4 d5 d6 : Value)
    (hg : w.heap[g]? = some (.cells #[c0, c1, c2, c3, c4, c5, c6] t fr)) (hp : a.tmps.getD p undef = .pointer (some ⟨g, 0, none⟩)) (hd : a.defers = [])
    (hR : R (.returned (.agg #[d0, d1, d2, d3, d4, d5, d6])) (((((((w.setCell ⟨g, 0, none⟩ d0).setCell ⟨g, 1, none⟩ d1).setCell ⟨g, 2, none⟩ d2).setCell ⟨g, 3, none⟩ d3).setCell ⟨g, 4, none⟩ d4).setCell ⟨g, 5, none⟩ d5).setCell ⟨g, 6, none⟩ d6)) : bodyPost Tryd.prog fn R .ret a (((((((w.setCell ⟨g, 0, none⟩ d0).setCell ⟨g, 1, none⟩ d1).setCell ⟨g, 2, none⟩ d2).setCell ⟨g, 3, none⟩ d3).setCell ⟨g, 4, none⟩ d4).setCell ⟨g, 5, none⟩ d5).setCell ⟨g, 6, none⟩ d6) :=
  bodyPost_ret (results_cell1 h _ _ g t _ fr _ hp (cells7_at hg d0 d1 d2 d3 d4 d5 d6) Tryd.underlying25 rfl (by kernel_rfl)) hd hR
theorem grown7 (w : World) (g : Nat) (a b c d e f i : Value) : w.grownBy (((((((w.setCell ⟨g, 0, none⟩ a).setCell ⟨g, 1, none⟩ b).setCell ⟨g, 2, none⟩ c).setCell ⟨g, 3, none⟩ d).setCell ⟨g, 4, none⟩ e).setCell ⟨g, 5, none⟩ f).setCell ⟨g, 6, none⟩ i) (some g) :=
  grownBy_trans (grownBy_trans (grownBy_trans (grownBy_trans (grownBy_trans (grownBy_trans (grownBy_set _ _ _ _) (grownBy_set _ _ _ _)) (grownBy_set _ _ _ _)) (grownBy_set _ _ _ _)) (grownBy_set _ _ _ _)) (grownBy_set _ _ _ _)) (grownBy_set _ _ _ _)
theorem ownq_of {w W wx : World} {S : Nat} {q : Que} {r : QuR} {A1 : Option Addr} {c1 : Nat} {A2 : Option Addr} {c2 : Nat} {ns : List ItR} {ms : List HlR} (h : CpH w W wx S q r A1 c1 A2 c2 ns r.hs.length ms) (hq : QuIn W q r) (hw : w.heap.size + 2 ≤ W.heap.size) (hS : W.heap.size ≤ S) (a b c d e f i : Value) :
    OwnQ (((((((wx.setCell ⟨w.heap.size + 1, 0, none⟩ a).setCell ⟨w.heap.size + 1, 1, none⟩ b).setCell ⟨w.heap.size + 1, 2, none⟩ c).setCell ⟨w.heap.size + 1, 3, none⟩ d).setCell ⟨w.heap.size + 1, 4, none⟩ e).setCell ⟨w.heap.size + 1, 5, none⟩ f).setCell ⟨w.heap.size + 1, 6, none⟩ i) w.heap.size q ⟨A1, c1, ns, A2, c2, ms⟩ := by
  obtain ⟨h1, h2, n1, n2, h3, h4, h5, h6, h7, m7, h8, h9, h10, h11⟩ := h
  rw [List.drop_length, List.append_nil] at h4
  rw [List.take_length] at h2
  have hg := grown7 wx (w.heap.size + 1) a b c d e f i
  have ok : ∀ y : ItR, y.ok wx → (∀ a, y.pa = some a → S ≤ a.block) → y.ok _ := fun y ho hs => rc_grown ho hg (fun A n c he => by injection he with he _ _; have := hs A he; omega)
  have i3 := own_other h3 hg (fun k hk e => by have h := own_base h3 k hk; injection e with e; omega)
  have i4 := own_other h4 hg (fun k hk e => by have h := own_base h4 k hk; injection e with e; omega)
  refine ⟨own_lower (by simpa [n1] using i3) (by omega), own_lower (by simpa [h1] using i4) (by omega), fun x hx => ⟨ok x (h7 x hx).1 (h7 x hx).2, fun a ha => ?_⟩, fun x hx => ⟨ok x.r (m7 x hx).1 (m7 x hx).2, fun a ha => ?_⟩, by rw [← hq.ip]; exact n2, by rw [← hq.hp]; exact h2⟩
  · have hs := (h7 x hx).2 a ha
    refine ⟨by omega, fun e => ?_, fun e => ?_⟩
    · have := h10 a.block (by simpa [n1, Value.ownBlock] using e); omega
    · have := h11 a.block (by simpa [h1, Value.ownBlock] using e); omega
  · have hs := (m7 x hx).2 a ha
    refine ⟨by omega, fun e => ?_, fun e => ?_⟩
    · have := h10 a.block (by simpa [n1, Value.ownBlock] using e); omega
    · have := h11 a.block (by simpa [h1, Value.ownBlock] using e); omega
theorem wk1 (k n : Nat) (h : k < n) (hn : n ≤ 9223372036854775807) : wrap64 ((k : Int) + 1) = (k : Int) + 1 := by unfold wrap64; omega
theorem own_lt' {w : World} {B e s n : Nat} {v : Value} {xs : List Value} (h : w.ownsRow B e s v n xs) {k : Nat} (hk : v.ownBlock = some k) : k < w.heap.size := by
  rcases h.2 with ⟨rfl, _⟩ | ⟨g, cap, cur, rfl, _, hg, _⟩
  · cases hk
  · injection hk with hk
    have e' : g = k := hk
    subst e'
    exact (Array.getElem?_eq_some_iff.1 hg).1

set_option maxRecDepth 100000 in
set_option maxHeartbeats 4000000 in
theorem copy_c {w : World} (q : Que) (r : QuR) (hq : QuIn w q r) (hi : r.is.length * 88 ≤ 140737488355328) (hh : r.hs.length * 112 ≤ 140737488355328) (hpi : ∀ x ∈ r.is, x.it.m.ps.length * 56 ≤ 140737488355328) (hph : ∀ x ∈ r.hs, x.r.it.m.ps.length * 56 ≤ 140737488355328) :
    Calls Tryd.prog 20 #[.agg #[.string q.name, .bool q.dur, .int .i64 q.depth, .int .i64 q.seq, .int .i64 q.tag, .slice r.ia r.is.length r.ic, .slice r.ha r.hs.length r.hc]] w fun e w' => ∃ r' : QuR, e = .returned (.agg #[.string q.name, .bool q.dur, .int .i64 q.depth, .int .i64 q.seq, .int .i64 q.tag, .slice r'.ia r'.is.length r'.ic, .slice r'.ha r'.hs.length r'.hc]) ∧ OwnQ w' w.heap.size q r' ∧ Below w.heap.size w w' := by
  obtain ⟨W, hW⟩ : ∃ W, W = (w.alloc (.cells #[.string q.name, .bool q.dur, .int .i64 q.depth, .int .i64 q.seq, .int .i64 q.tag, .slice r.ia r.is.length r.ic, .slice r.ha r.hs.length r.hc] 25)).alloc (.cells #[.string ⟨#[]⟩, .bool false, .int .i64 0, .int .i64 0, .int .i64 0, .slice none 0 0, .slice none 0 0] 25) := ⟨_, rfl⟩
  have b0 : Below w.heap.size w W := by rw [hW]; exact ((Below.refl _ _).alloc (Nat.le_refl _) _).alloc (by simp) _
  have hsz : W.heap.size = w.heap.size + 2 := by rw [hW]; simp
  have h0 : W.heap[w.heap.size]? = some (.cells #[.string q.name, .bool q.dur, .int .i64 q.depth, .int .i64 q.seq, .int .i64 q.tag, .slice r.ia r.is.length r.ic, .slice r.ha r.hs.length r.hc] 25 (0, 0)) := by
    rw [hW]
    have h := heap_alloc_new w (.cells #[.string q.name, .bool q.dur, .int .i64 q.depth, .int .i64 q.seq, .int .i64 q.tag, .slice r.ia r.is.length r.ic, .slice r.ha r.hs.length r.hc] 25)
    exact (((Below.refl _ _).alloc (Nat.le_refl _) _).block _ (by simp)).trans h
  have h1 : W.heap[w.heap.size + 1]? = some (.cells #[.string ⟨#[]⟩, .bool false, .int .i64 0, .int .i64 0, .int .i64 0, .slice none 0 0, .slice none 0 0] 25 (0, 0)) := by
    rw [hW]
    have h := heap_alloc_new (w.alloc (.cells #[.string q.name, .bool q.dur, .int .i64 q.depth, .int .i64 q.seq, .int .i64 q.tag, .slice r.ia r.is.length r.ic, .slice r.ha r.hs.length r.hc] 25)) (.cells #[.string ⟨#[]⟩, .bool false, .int .i64 0, .int .i64 0, .int .i64 0, .slice none 0 0, .slice none 0 0] 25)
    simpa using h
  have hqW := hq.below b0
  have HC1 := Lib.hid (cloneI_c (w := W.drew) (rc_drew hqW.items.1) (cells_oneI r.is) hi)
  have HC2 := Lib.hid (fun w1 (b : Below W.heap.size W w1) => cloneH_c (w := w1) (rc_below hqW.held.1 b) (cells_oneH r.hs) hh)
  have HQ := Lib.hid hqW
  have HQ0 := Lib.hid hq
  have HPI := Lib.hid hpi
  have HPH := Lib.hid hph
  have HW := Lib.hid hW
  have HB0 := Lib.hid b0
  have HH0 := Lib.hid h0
  have HH1 := Lib.hid h1
  have HSZ := Lib.hid hsz
  have k5 : W.drew.cell? ⟨w.heap.size, 5, none⟩ = some (.slice r.ia r.is.length r.ic) := by show W.cell? _ = _; simp only [World.cell?, h0]; rfl
  have k6 : W.drew.cell? ⟨w.heap.size, 6, none⟩ = some (.slice r.ha r.hs.length r.hc) := by show W.cell? _ = _; simp only [World.cell?, h0]; rfl
  have fz : ∀ j, W.drew.frozen? ⟨w.heap.size, j, none⟩ = false := fun j => frozen_of_row _ _ j _ _ h0
  have hk : w.heap.size < W.drew.heap.size := by show _ < W.heap.size; omega
  clear hW b0 hq hqW h0 h1 hsz hi hh hpi hph
  go_enter Tryd.func20, Tryd.ntmps20
  go_upto_region 1 with fail
  rw [← HW.out]
  go_cut [5] from 5 to 12 (fun _ wx => ∃ A1 c1 A2 c2, Hid (Cloned W wx w.heap.size q r A1 c1 A2 c2))
  case first =>
   go_region_with (first
    | (go_at_call 36; refine (HC1.out).mono ?_; rintro e w1 ⟨v1, rfl, o1, b1⟩; obtain ⟨A1, c1, rfl⟩ := rc_any' (own_rc o1); have O1 := Lib.hid o1; have B1 := Lib.hid b1; have k5 := cell_below b1 hk k5; have k6 := cell_below b1 hk k6; have fz := fun j => frozen_below b1 hk j (fz j); clear o1)
    | (go_at_call 37; refine (HC2.out w1 (((Below.refl _ W).drew).trans (B1.out.mono (by simp)))).mono ?_; rintro e w2 ⟨v2, rfl, o2, b2⟩; obtain ⟨A2, c2, rfl⟩ := rc_any' (own_rc o2); have O2 := Lib.hid o2; have B2 := Lib.hid b2; have k5 := cell_below b2 (Nat.lt_of_lt_of_le hk B1.out.size) k5; have k6 := cell_below b2 (Nat.lt_of_lt_of_le hk B1.out.size) k6; have fz := fun j => frozen_below b2 (Nat.lt_of_lt_of_le hk B1.out.size) j (fz j); clear o2))
   all_goals (go_wp2_with fail; go_meet; exact ⟨A1, c1, A2, c2, Lib.hid (cloned_of (by have := HSZ.out; omega) HH0.out O1.out B1.out O2.out B2.out)⟩)
  case rest =>
    obtain ⟨A1, c1, A2, c2, HCL⟩ := hcut
    clear k5 k6 fz hk HC1 HC2
    have hwc : W.heap.size ≤ wc.heap.size := HCL.out.gr.size
    have hbwc : Below w.heap.size w wc := HB0.out.grown HCL.out.gr HB0.out.size (fun k hk => by injection hk with hk; omega)
    have HI0 : Hid (CpI w W wc wc.heap.size q r A1 c1 A2 c2 0 []) := Lib.hid ⟨rfl, rfl, by simpa using HCL.out.io, HCL.out.ho, HCL.out.row, (HCL.out.gr.block _ (by have := HSZ.out; omega) (by simp)).trans HH1.out, (fun x hx => by cases hx), hbwc, Nat.le_refl _, (fun g hg => own_lt' HCL.out.io hg), (fun g hg => own_lt' HCL.out.ho hg)⟩
    have HWC := Lib.hid hwc
    have hlenI : r.is.length ≤ 9223372036854775807 := rit_len HQ.out.items
    have hlenH : r.hs.length ≤ 9223372036854775807 := rhl_len HQ.out.held
    have HLI := Lib.hid hlenI
    have HLH := Lib.hid hlenH
    have k5 : wc.cell? ⟨w.heap.size, 5, none⟩ = some (.slice A1 r.is.length c1) := by simp only [World.cell?, HCL.out.row]; rfl
    clear hwc hbwc hlenI hlenH
    go_wp2_with fail
    go_loopw [16] (fun i wr => ∃ (k : Nat) (ns : List ItR), k ≤ r.is.length ∧ i = .int .i64 k ∧ Hid (CpI w W wr wc.heap.size q r A1 c1 A2 c2 k ns)) (fun i _ => r.is.length - (intOf i).toNat)
    case atStart => exact ⟨0, [], Nat.zero_le _, rfl, HI0⟩
    case round =>
      clear HI0 k5
      obtain ⟨k, ns, hk, rfl, HI⟩ := hrel
      by_cases hlt : k < r.is.length
      · obtain ⟨x, hx⟩ : ∃ x, r.is[k]? = some x := ⟨_, List.getElem?_eq_getElem hlt⟩
        obtain ⟨g, cc, he⟩ : ∃ g cc, Value.slice A1 r.is.length c1 = .slice (some ⟨g, 0, none⟩) r.is.length cc := by
          rcases HI.out.io.2 with ⟨_, h0⟩ | ⟨g, cc, cur, h1, _⟩
          · omega
          · exact ⟨g, cc, h1⟩
        injection he with he1 _ he3
        subst he1 he3
        have hlx : (ns ++ r.is.drop k)[k]? = some x := by
          rw [List.getElem?_append_right (by have := HI.out.len; omega), HI.out.len, Nat.sub_self, List.getElem?_drop, Nat.add_zero]
          exact hx
        have hcs : ∀ w5, Below wr.drew.heap.size wr.drew w5 → ∀ j u, (x.cells)[j]? = some u → w5.cell? ⟨g, k * 7 + j, none⟩ = some u := fun w5 b5 j u hu =>
          own_cell (f := ItR.cells) (s := 7) (by omega) (fun _ => rfl) (own_below (drewO HI.out.io) b5) hlx j u hu
        have hks : ∀ w5, Below wr.drew.heap.size wr.drew w5 → w5.cell? ⟨w.heap.size, 5, none⟩ = some (.slice (some ⟨g, 0, none⟩) r.is.length c1) := fun w5 b5 => by
          have h := (b5.block w.heap.size (Array.getElem?_eq_some_iff.1 HI.out.row).1).trans HI.out.row
          simp only [World.cell?, h]
          rfl
        have hfz : ∀ w5, Below wr.drew.heap.size wr.drew w5 → ∀ j, w5.frozen? ⟨g, j, none⟩ = false := fun w5 b5 j => own_frz (own_below (drewO HI.out.io) b5) j
        have HCS := Lib.hid hcs
        have HKS := Lib.hid hks
        have HFZ := Lib.hid hfz
        have hxok : x.ok wr.drew := rc_drew ((HQ0.out.items.2 x (List.mem_of_getElem? hx)).below HI.out.bel)
        have HCP := Lib.hid (copied_c (w := wr.drew) x.it.m hxok (HPI.out x (List.mem_of_getElem? hx)))
        have hkI : (k : Int) < (r.is.length : Int) := by omega
        have HLT := Lib.hid hlt
        have HX := Lib.hid hx
        have HWK1 := Lib.hid (wk1 k _ hlt HLI.out)
        have k5 := hks wr.drew (Below.refl _ _)
        clear hlx hcs hks hfz hxok hk hlt hx
        have k5' : wr.cell? ⟨w.heap.size, 5, none⟩ = some (.slice (some ⟨g, 0, none⟩) r.is.length c1) := k5
        go_upto_region 5 with fail
        have q2 := HCS.out wr.drew (Below.refl _ _) 2 _ rfl
        have q3 := HCS.out wr.drew (Below.refl _ _) 3 _ rfl
        have q4 := HCS.out wr.drew (Below.refl _ _) 4 _ rfl
        have q5 := HCS.out wr.drew (Below.refl _ _) 5 _ rfl
        have q6 := HCS.out wr.drew (Below.refl _ _) 6 _ rfl
        go_region_with (go_at_call 38; refine (HCP.out).mono ?_; rintro e w5 ⟨A', c', rfl, r5, hb5, b5⟩; have k5 := HKS.out w5 b5; have q2 := HCS.out w5 b5 2 _ rfl; have q3 := HCS.out w5 b5 3 _ rfl; have q4 := HCS.out w5 b5 4 _ rfl; have q5 := HCS.out w5 b5 5 _ rfl; have q6 := HCS.out w5 b5 6 _ rfl; have fz := HFZ.out w5 b5; have R5 := Lib.hid r5; have HB5 := Lib.hid hb5; have B5 := Lib.hid b5; clear r5 hb5 b5)
        all_goals (
          have HI2 := Lib.hid (cpI_step HI.out HWC.out (Nat.le_of_eq HSZ.out.symm) HX.out (((Below.refl _ wr).drew).trans B5.out) R5.out HB5.out)
          go_wp2_with fail
          go_roundw
          case rel => exact ⟨k + 1, _, HLT.out, by first | rfl | (rw [HWK1.out]; rfl), HI2⟩
          case measure => first | exact round_less1 HLT.out | (rw [HWK1.out]; exact round_less1 HLT.out))
      · have hk2 : k = r.is.length := by omega
        subst hk2
        have HJ0 : Hid (CpH w W wr wc.heap.size q r A1 c1 A2 c2 ns 0 []) := Lib.hid ⟨rfl, rfl, HI.out.len, by rw [HI.out.mp, List.take_length], by have h := HI.out.io; rw [List.drop_length, List.append_nil] at h; exact h, by simpa using HI.out.ho, HI.out.row, HI.out.res, HI.out.nk, (fun x hx => by cases hx), HI.out.bel, HI.out.sz, HI.out.ib, HI.out.hb⟩
        have k6 : wr.cell? ⟨w.heap.size, 6, none⟩ = some (.slice A2 r.hs.length c2) := by simp only [World.cell?, HI.out.row]; rfl
        clear hlt HI hk
        go_wp2_with fail
        go_loopw [35] (fun i wr => ∃ (k : Nat) (ms : List HlR), k ≤ r.hs.length ∧ i = .int .i64 k ∧ Hid (CpH w W wr wc.heap.size q r A1 c1 A2 c2 ns k ms)) (fun i _ => r.hs.length - (intOf i).toNat)
        case atStart => exact ⟨0, [], Nat.zero_le _, rfl, HJ0⟩
        case round =>
          clear HJ0 k6
          obtain ⟨k, ms, hk, rfl, HI⟩ := hrel
          by_cases hlt : k < r.hs.length
          · obtain ⟨x, hx⟩ : ∃ x, r.hs[k]? = some x := ⟨_, List.getElem?_eq_getElem hlt⟩
            obtain ⟨g, cc, he⟩ : ∃ g cc, Value.slice A2 r.hs.length c2 = .slice (some ⟨g, 0, none⟩) r.hs.length cc := by
              rcases HI.out.ho.2 with ⟨_, h0⟩ | ⟨g, cc, cur, h1, _⟩
              · omega
              · exact ⟨g, cc, h1⟩
            injection he with he1 _ he3
            subst he1 he3
            have hlx : (ms ++ r.hs.drop k)[k]? = some x := by
              rw [List.getElem?_append_right (by have := HI.out.len; omega), HI.out.len, Nat.sub_self, List.getElem?_drop, Nat.add_zero]
              exact hx
            have hcs : ∀ w5, Below wr.drew.heap.size wr.drew w5 → ∀ j u, (x.cells)[j]? = some u → w5.cell? ⟨g, k * 10 + j, none⟩ = some u := fun w5 b5 j u hu =>
              own_cell (f := HlR.cells) (s := 10) (by omega) (fun _ => rfl) (own_below (drewO HI.out.ho) b5) hlx j u hu
            have hks : ∀ w5, Below wr.drew.heap.size wr.drew w5 → w5.cell? ⟨w.heap.size, 6, none⟩ = some (.slice (some ⟨g, 0, none⟩) r.hs.length c2) := fun w5 b5 => by
              have h := (b5.block w.heap.size (Array.getElem?_eq_some_iff.1 HI.out.row).1).trans HI.out.row
              simp only [World.cell?, h]
              rfl
            have hfz : ∀ w5, Below wr.drew.heap.size wr.drew w5 → ∀ j, w5.frozen? ⟨g, j, none⟩ = false := fun w5 b5 j => own_frz (own_below (drewO HI.out.ho) b5) j
            have HCS := Lib.hid hcs
            have HKS := Lib.hid hks
            have HFZ := Lib.hid hfz
            have hxok : x.r.ok wr.drew := rc_drew ((HQ0.out.held.2 x (List.mem_of_getElem? hx)).below HI.out.bel)
            have HCP := Lib.hid (copied_c (w := wr.drew) x.r.it.m hxok (HPH.out x (List.mem_of_getElem? hx)))
            have hkI : (k : Int) < (r.hs.length : Int) := by omega
            have HLT := Lib.hid hlt
            have HX := Lib.hid hx
            have HWK1 := Lib.hid (wk1 k _ hlt HLH.out)
            have k5 := hks wr.drew (Below.refl _ _)
            clear hlx hcs hks hfz hxok hk hlt hx
            have k5' : wr.cell? ⟨w.heap.size, 6, none⟩ = some (.slice (some ⟨g, 0, none⟩) r.hs.length c2) := k5
            go_upto_region 10 with fail
            have q2 := HCS.out wr.drew (Below.refl _ _) 5 _ rfl
            have q3 := HCS.out wr.drew (Below.refl _ _) 6 _ rfl
            have q4 := HCS.out wr.drew (Below.refl _ _) 7 _ rfl
            have q5 := HCS.out wr.drew (Below.refl _ _) 8 _ rfl
            have q6 := HCS.out wr.drew (Below.refl _ _) 9 _ rfl
            go_region_with (go_at_call 38; refine (HCP.out).mono ?_; rintro e w5 ⟨A', c', rfl, r5, hb5, b5⟩; have k5 := HKS.out w5 b5; have q2 := HCS.out w5 b5 5 _ rfl; have q3 := HCS.out w5 b5 6 _ rfl; have q4 := HCS.out w5 b5 7 _ rfl; have q5 := HCS.out w5 b5 8 _ rfl; have q6 := HCS.out w5 b5 9 _ rfl; have fz := HFZ.out w5 b5; have R5 := Lib.hid r5; have HB5 := Lib.hid hb5; have B5 := Lib.hid b5; clear r5 hb5 b5)
            all_goals (
              have HI2 := Lib.hid (cpH_step HI.out HWC.out (Nat.le_of_eq HSZ.out.symm) HX.out (((Below.refl _ wr).drew).trans B5.out) R5.out HB5.out)
              go_wp2_with fail
              go_roundw
              case rel => exact ⟨k + 1, _, HLT.out, by first | rfl | (rw [HWK1.out]; rfl), HI2⟩
              case measure => first | exact round_less1 HLT.out | (rw [HWK1.out]; exact round_less1 HLT.out))
          · have hk2 : k = r.hs.length := by omega
            subst hk2
            have hz : ∀ j u, (#[.string q.name, .bool q.dur, .int .i64 q.depth, .int .i64 q.seq, .int .i64 q.tag, .slice A1 r.is.length c1, .slice A2 r.hs.length c2] : Array Value)[j]? = some u → wr.cell? ⟨w.heap.size, j, none⟩ = some u := fun j u hj => by simp only [World.cell?, HI.out.row]; exact hj
            have hy : ∀ j u, (#[.string ⟨#[]⟩, .bool false, .int .i64 0, .int .i64 0, .int .i64 0, .slice none 0 0, .slice none 0 0] : Array Value)[j]? = some u → wr.cell? ⟨w.heap.size + 1, j, none⟩ = some u := fun j u hj => by simp only [World.cell?, HI.out.res]; exact hj
            have z0 := hz 0 _ rfl
            have z1 := hz 1 _ rfl
            have z2 := hz 2 _ rfl
            have z3 := hz 3 _ rfl
            have z4 := hz 4 _ rfl
            have z5 := hz 5 _ rfl
            have z6 := hz 6 _ rfl
            have y0 := hy 0 _ rfl
            have y1 := hy 1 _ rfl
            have y2 := hy 2 _ rfl
            have y3 := hy 3 _ rfl
            have y4 := hy 4 _ rfl
            have y5 := hy 5 _ rfl
            have y6 := hy 6 _ rfl
            have fz : ∀ j, wr.frozen? ⟨w.heap.size + 1, j, none⟩ = false := fun j => frozen_of_row _ _ j _ _ HI.out.res
            clear hlt hk hz hy
            go_wp2_with fail
            refine queue_end1 (w := wr) (g := w.heap.size + 1) rfl _ _ _ _ _ _ _ HI.out.res rfl rfl ?_
            exact ⟨⟨A1, c1, ns, A2, c2, ms⟩, by rw [show ns.length = r.is.length from HI.out.nl, show ms.length = r.hs.length from HI.out.len], ownq_of HI.out HQ.out (Nat.le_of_eq HSZ.out.symm) HWC.out _ _ _ _ _ _ _, below7 HI.out.bel (Nat.le_succ _) _ _ _ _ _ _ _⟩
end Go.Proofs.YtelhpdnclmpgoaaDoor
